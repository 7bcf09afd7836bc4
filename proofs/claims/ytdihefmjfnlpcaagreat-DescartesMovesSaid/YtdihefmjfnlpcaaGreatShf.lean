/- The walks of descartes.shifted and Budan. -/
import Derived.Test.YtdihefmjfnlpcaaGreatMob
import Derived.Test.YtdihefmjfnlpcaaGreatStr
import Derived.Test.YtdihefmjfnlpcaaGreatSte
namespace Go.Proofs.YtdihefmjfnlpcaaGreat
open Go.RowKit

/-- a row that is filled from its end -/
def rowd (G : Nat → Int) (n k : Nat) : List Int := (List.range n).map fun j => if n ≤ j + k then G j else 0
section
variable (G : Nat → Int) (n : Nat)
theorem rowd_length (k : Nat) : (rowd G n k).length = n := by simp [rowd]
theorem rowd_getE (k : Nat) {t : Nat} (h : t < n) : (rowd G n k)[t]? = some (if n ≤ t + k then G t else 0) := by
  rw [rowd, List.getElem?_map, List.getElem?_range h]; rfl
theorem rowd_zero : rowd G n 0 = List.replicate n 0 := by
  refine List.ext_getElem? fun t => ?_
  rcases Nat.lt_or_ge t n with h | h
  · rw [rowd_getE G n 0 h, if_neg (by omega), List.getElem?_replicate, if_pos h]
  · rw [List.getElem?_eq_none (by rw [rowd_length]; exact h), List.getElem?_eq_none (by simpa using h)]
theorem rowd_set {k : Nat} (hk : k < n) : (rowd G n k).set (n - 1 - k) (G (n - 1 - k)) = rowd G n (k + 1) := by
  refine List.ext_getElem? fun t => ?_
  rcases Nat.lt_or_ge t n with h | h
  · rw [rowd_getE G n (k + 1) h]
    rcases Nat.decEq t (n - 1 - k) with hne | heq
    · rw [List.getElem?_set_ne (by omega), rowd_getE G n k h]
      congr 1
      by_cases h1 : n ≤ t + k
      · rw [if_pos h1, if_pos (by omega)]
      · rw [if_neg h1, if_neg (by omega)]
    · subst heq
      rw [List.getElem?_set_self (by rw [rowd_length]; exact h), if_pos (by omega)]
  · rw [List.getElem?_eq_none (by rw [List.length_set, rowd_length]; exact h), List.getElem?_eq_none (by rw [rowd_length]; exact h)]
end
/-- f with denominators cleared -/
def pclr (f : List Int) (c : Int) : List Int := rowd (fun j => f.getD j 0 * c ^ (f.length - 1 - j)) f.length f.length
theorem pclr_length (f : List Int) (c : Int) : (pclr f c).length = f.length := rowd_length _ _ _
theorem pclr_one (f : List Int) : pclr f 1 = f := by
  refine List.ext_getElem? fun t => ?_
  rcases Nat.lt_or_ge t f.length with h | h
  · unfold pclr
    rw [rowd_getE _ _ _ h, if_pos (by omega), Int.one_pow, Int.mul_one, List.getD_eq_getElem?_getD, List.getElem?_eq_getElem h]; rfl
  · rw [List.getElem?_eq_none (by rw [pclr_length]; exact h), List.getElem?_eq_none h]

/-- what shifted reckons with at z / q -/
structure ShFit (f : List Int) (z : Int) (q : Nat) : Prop where
  u : U64 z.natAbs
  v : q < BB
  p : 0 < q
  pw : ∀ k, k ≤ f.length → Fit (((q / Nat.gcd z.natAbs q : Nat) : Int) ^ k)
  cl : SmP (pclr f ((q / Nat.gcd z.natAbs q : Nat) : Int))
  sh : ShOK (z.tdiv (Nat.gcd z.natAbs q)) (ptrim (pclr f ((q / Nat.gcd z.natAbs q : Nat) : Int)))
  sm : SmP (hsh (z.tdiv (Nat.gcd z.natAbs q)) (ptrim (pclr f ((q / Nat.gcd z.natAbs q : Nat) : Int))))
/-- the sign changes of f(x + z/q) -/
def nsh (f : List Int) (z : Int) (q : Nat) : Nat := (vst (hsh (z.tdiv (Nat.gcd z.natAbs q)) (ptrim (pclr f ((q / Nat.gcd z.natAbs q : Nat) : Int)))) (plen (pclr f ((q / Nat.gcd z.natAbs q : Nat) : Int)))).1

theorem RBox.row {W : World} {g g' : Nat} {n : Bool} {A B : Option Addr} {l c m d q : Nat} {z : Int} {zs : List Int} (h : RBox W g n A l c B m d z q) (hr : PRow W g' zs) {i : Nat} (hi : i < zs.length) (hg : g ≠ g') (u v : Value) :
    RBox ((W.setCell ⟨g', i * 2, none⟩ u).setCell ⟨g', i * 2 + 1, none⟩ v) g n A l c B m d z q := by
  obtain ⟨n0, A0, l0, c0, e0, e1, _⟩ := hr.elems i hi
  have k0 := h.c0
  have k1 := h.c1
  have k2 := h.c2
  have f0 := h.f0
  have f1 := h.f1
  have f2 := h.f2
  have e1' : (W.setCell ⟨g', i * 2, none⟩ u).cell? ⟨g', i * 2 + 1, none⟩ = some (.slice A0 l0 c0) := by
    rw [World.cell?_setCell_other W _ _ _ (by simp)]; exact e1
  exact ⟨by go_simp, by go_simp, by go_simp, by go_simp, by go_simp, by go_simp, by simpa [World.setCell] using h.lt, (h.hz.store _ e0 (noDigit_bool _)).store _ e1' (noDigit_slice _ _ _), (h.hq.store _ e0 (noDigit_bool _)).store _ e1' (noDigit_slice _ _ _)⟩

set_option maxRecDepth 100000 in
set_option maxHeartbeats 4000000 in
theorem shifted_any (Af : Option Addr) (lf cf : Nat) (f : List Int) (n : Bool) (A : Option Addr) (l c : Nat) (B : Option Addr) (m d q : Nat) (z : Int) (w : World) (hf : PolyN w Af lf cf f) (ff : FitP f) (hfm : lf ≤ 1000000) (hz : IntN w n A l c z) (hq : NatN w B m d q) (hok : ShFit f z q) :
    Calls Tryz.prog 68 #[.slice Af lf cf, .agg #[.bool n, .slice A l c, .slice B m d]] w fun e w' => e = .returned (.int .i64 (nsh f z q : Nat)) ∧ Below w.heap.size w w' := by
  obtain ⟨Z, hZ⟩ : ∃ Z, Z = z.tdiv (Nat.gcd z.natAbs q) := ⟨_, rfl⟩
  obtain ⟨Q, hQ⟩ : ∃ Q : Nat, Q = q / Nat.gcd z.natAbs q := ⟨_, rfl⟩
  obtain ⟨u, v, p, pw, cl, sh, sm⟩ := hok
  rw [← hZ] at sh sm
  rw [← hQ] at pw cl sh sm
  obtain ⟨C, hC⟩ : ∃ C, C = pclr f (Q : Int) := ⟨_, rfl⟩
  rw [← hC] at cl sh sm
  obtain ⟨R, hR⟩ : ∃ R, R = hsh Z (ptrim C) := ⟨_, rfl⟩
  rw [← hR] at sm
  obtain ⟨X, hX⟩ : ∃ X, X = nsh f z q := ⟨_, rfl⟩
  have hX2 : (vst R (plen C)).1 = X := by rw [hX, hR, hC, hZ, hQ]; rfl
  rw [← hX]
  have HZ := Lib.hid hZ
  have HQ := Lib.hid hQ
  have HC := Lib.hid hC
  have HR := Lib.hid hR
  have HX := Lib.hid hX2
  have Pw := Lib.hid pw
  have Sh := Lib.hid sh
  have hlf := hf.length
  have Hlf := Lib.hid hlf
  have hCl : C.length = lf := by rw [hC, pclr_length]; exact hlf
  have hCR : C = rowd (fun j => f.getD j 0 * (Q : Int) ^ (lf - 1 - j)) lf lf := by rw [hC]; unfold pclr; rw [hlf]
  have HCl := Lib.hid hCl
  have HCR := Lib.hid hCR
  have sQ : SmI (Q : Int) := by
    have := (pw 1)
    rcases Nat.eq_zero_or_pos f.length with h0 | h0
    · unfold SmI; rw [Int.natAbs_natCast, hQ]; exact Sm.mono (nat_fit v).smn (Nat.div_le_self _ _)
    · have h1 := pw 1 h0
      rw [Int.pow_one] at h1
      exact h1.sm
  have o1 := below_new w (rbox n A l c B m d)
  have r1 := RBox.make hz hq
  have RB := Lib.hid r1
  have HF := Lib.hid hf
  have Hb := Lib.hid o1
  clear hZ hQ hC hR hX hX2 pw sh hlf hCl hCR o1 r1 hf hz hq
  go_enter Tryz.func68, Tryz.ntmps68
  go_wp2_with fail
  refine (rnormal_any _ _ _ _ _ _ _ _ _ _ RB.out.hz RB.out.hq u v p).mono ?_
  rintro e w1 ⟨⟨n3, A3, l3, c3, B3, m3, d3, rfl, h3, k3⟩, hb1⟩
  rw [← HZ.out] at h3
  rw [← HQ.out] at k3
  have r1 := RB.out.move hb1
  have rp := r1.put h3 k3
  have hbP : Below w.heap.size w (put3 w1 w.heap.size n3 A3 l3 c3 B3 m3 d3) := (((Hb.out.trans (hb1.mono Hb.out.size)).setCell (p := ⟨w.heap.size, 0, none⟩) (Nat.le_refl _) _).setCell (p := ⟨w.heap.size, 1, none⟩) (Nat.le_refl _) _).setCell (p := ⟨w.heap.size, 2, none⟩) (Nat.le_refl _) _
  have x0 := r1.c0
  have x1 := r1.c1
  have x2 := r1.c2
  have x3 := r1.f0
  have x4 := r1.f1
  have x5 := r1.f2
  have RP := Lib.hid rp
  have Hbp := Lib.hid hbP
  have sQn : Sm Q := by unfold SmI at sQ; rw [Int.natAbs_natCast] at sQ; exact sQ
  obtain ⟨wp, hwp⟩ : ∃ wp, wp = put3 w1 w.heap.size n3 A3 l3 c3 B3 m3 d3 := ⟨_, rfl⟩
  have ewp : wp = ((w1.setCell ⟨w.heap.size, 0, none⟩ (.bool n3)).setCell ⟨w.heap.size, 1, none⟩ (.slice A3 l3 c3)).setCell ⟨w.heap.size, 2, none⟩ (.slice B3 m3 d3) := hwp
  clear h3 k3 hb1 r1 rp hbP RB Hb
  go_wp2_with fail
  rw [← ewp]
  rw [← hwp] at RP Hbp
  clear ewp hwp x0 x1 x2 x3 x4 x5
  refine (from_any _ _ _ _ _ _ RP.out.hq.at_ sQn).mono ?_
  rintro e w2 ⟨n5, A5, l5, c5, rfl, h5, hb2⟩
  rw [sgn_false] at h5
  have jb := below_new w2 (ibox n5 A5 l5 c5)
  have hbj := hb2.trans (jb.mono hb2.size)
  have x5 := IBox.make h5
  have hlt5 : w.heap.size < w2.heap.size := Nat.lt_of_lt_of_le RP.out.lt hb2.size
  have RA := Lib.hid (RP.out.move hbj)
  have Hb := Lib.hid (Hbp.out.trans (hbj.mono Hbp.out.size))
  obtain ⟨g5, e5⟩ : ∃ g, g = w2.heap.size := ⟨_, rfl⟩
  rw [← e5] at x5 hlt5
  have I5 := Lib.hid x5
  obtain ⟨wa, hwa⟩ : ∃ wa, wa = w2.alloc (ibox n5 A5 l5 c5) := ⟨_, rfl⟩
  have hsa : wa.heap.size = g5 + 1 := by rw [hwa, e5]; simp
  clear h5 hb2 jb hbj x5 RP Hbp
  go_wp2_with (at_make; refine wpList_make_poly _ rfl (.tmp 15) (.tmp 15) rfl lf rfl rfl (by omega) ?_)
  rw [← hwa] at RA I5 Hb ⊢
  rw [← e5]
  intro w3 hz hb3 hsz
  have hb3' : Below wa.heap.size wa w3 := by rw [hsa]; exact hb3
  obtain ⟨G, hG⟩ : ∃ G : Nat → Int, G = fun j => f.getD j 0 * (Q : Int) ^ (lf - 1 - j) := ⟨_, rfl⟩
  have hGe : ∀ j, G j = f.getD j 0 * (Q : Int) ^ (lf - 1 - j) := fun j => by rw [hG]
  have hCG : C = rowd G lf lf := by rw [hG]; exact HCR.out
  rw [← rowd_zero G lf] at hz
  obtain ⟨gr, egr⟩ : ∃ g, g = g5 + 1 := ⟨_, rfl⟩
  rw [← egr] at hz ⊢
  have HG := Lib.hid hGe
  have HCG := Lib.hid hCG
  replace RA := Lib.hid (RA.out.move hb3')
  replace I5 := Lib.hid (I5.out.move hb3')
  replace Hb := Lib.hid (Hb.out.trans (hb3'.mono Hb.out.size))
  have HRw := Lib.hid hz
  have lgr : w.heap.size < gr := by omega
  have lg5 : g5 < gr := by omega
  clear hwa hsa hb3 hb3' hz e5 hG hGe hCG HCR egr
  go_wp2_with fail
  refine (iof_any 1 _ (by unfold I64; omega)).mono ?_
  rintro e w4 ⟨n7, A7, l7, c7, rfl, h7, hb4⟩
  have jb := below_new w4 (ibox n7 A7 l7 c7)
  have hbj := hb4.trans (jb.mono hb4.size)
  have x7 := IBox.make h7
  have hlt7 : gr < w4.heap.size := Nat.lt_of_lt_of_le HRw.out.lt hb4.size
  replace RA := Lib.hid (RA.out.move hbj)
  replace I5 := Lib.hid (I5.out.move hbj)
  replace HRw := Lib.hid (HRw.out.below hbj)
  replace Hb := Lib.hid (Hb.out.trans (hbj.mono Hb.out.size))
  obtain ⟨g7, e7⟩ : ∃ g, g = w4.heap.size := ⟨_, rfl⟩
  rw [← e7] at x7 hlt7
  have I7 := Lib.hid x7
  have hw0 : IntKind.i64.wrap ((lf : Int) - 1) = (lf : Int) - 1 := IntWalk.i64_in _ (by omega)
  clear h7 hb4 jb hbj x7
  go_wp2_with fail
  rw [← e7]
  clear e7 hw0
  go_loopw [8] (fun i wr => ∃ k n7 A7 l7 c7, k ≤ lf ∧ i = .int .i64 ((lf : Int) - 1 - (k : Int)) ∧ PRow wr gr (rowd G lf k) ∧ IBox wr g7 n7 A7 l7 c7 ((Q : Int) ^ k) ∧ IBox wr g5 n5 A5 l5 c5 (Q : Int) ∧ RBox wr w.heap.size n3 A3 l3 c3 B3 m3 d3 Z Q ∧ Below w.heap.size w wr) (fun i _ => (intOf i + 1).toNat)
  case atStart => exact ⟨0, _, _, _, _, Nat.zero_le _, by go_num, HRw.out, by rw [Int.pow_zero]; exact I7.out, I5.out, RA.out, Hb.out⟩
  case round =>
    clear HRw I7 I5 RA Hb
    obtain ⟨k, n7, A7, l7, c7, hk, rfl, hrow, i7, i5, ra, hb⟩ := hrel
    by_cases hlt : k < lf
    · obtain ⟨ix, hix⟩ : ∃ ix : Nat, ix = lf - 1 - k := ⟨_, rfl⟩
      have e0 : (lf : Int) - 1 - (k : Int) = (ix : Int) := by omega
      rw [e0]
      have hil : ix < lf := by omega
      have hkx : k = lf - 1 - ix := by omega
      obtain ⟨bf, of, rfl, hbf, hcf⟩ := HF.out.get (by omega)
      obtain ⟨nf, Ae, le, ce, f0, f1, ze⟩ := hcf ix hil
      have e1 := (hb.cell (p := ⟨bf, of + ix * 2, none⟩) hbf).trans f0
      have e2 := (hb.cell (p := ⟨bf, of + ix * 2 + 1, none⟩) hbf).trans f1
      have zf := ze.below hb
      have d0 := i7.c0
      have d1 := i7.c1
      have hrl : (rowd G lf k).length = lf := rowd_length _ _ _
      have hst := rowd_set G lf hlt
      rw [← hix] at hst
      have hGi : G ix = f.getD ix 0 * (Q : Int) ^ k := by rw [HG.out, ← hkx]
      have fk := Pw.out k (by rw [Hlf.out]; omega)
      have fe := ff ix
      obtain ⟨ck, hck⟩ : ∃ c, c = (Q : Int) ^ k := ⟨_, rfl⟩
      have hck1 : (Q : Int) ^ (k + 1) = ck * (Q : Int) := by rw [hck, Int.pow_succ]
      rw [← hck] at fk hGi i7
      obtain ⟨el, hel⟩ : ∃ e, e = f.getD ix 0 := ⟨_, rfl⟩
      rw [← hel] at fe hGi zf
      have HGI := Lib.hid hGi
      have HST := Lib.hid hst
      have HCK := Lib.hid hck1
      have Hix := Lib.hid hix
      have Hrow := Lib.hid hrow
      have I7 := Lib.hid i7
      have I5 := Lib.hid i5
      have RA := Lib.hid ra
      have Hb := Lib.hid hb
      have ZF := Lib.hid zf
      have hgl := hrow.lt
      have hg7l := i7.lt
      have nq1 : bf < wr.heap.size := by have := hb.size; omega
      have ne1 : g7 ≠ gr := by omega
      have ne2 : gr ≠ g7 := by omega
      have ne3 : g5 ≠ gr := by omega
      have ne4 : g5 ≠ g7 := by omega
      have ne5 : w.heap.size ≠ gr := by omega
      have ne6 : w.heap.size ≠ g7 := by omega
      have nq2 : gr ≠ bf := by omega
      have nq3 : g7 ≠ bf := by omega
      clear hrow i7 i5 ra hb zf ze hcf f0 f1 hst hGi hck hck1 hel e0 hix hkx
      go_wp2_with fail
      refine wp_region_last (S := fun w' => w'.cell? ⟨bf, of + ix * 2, none⟩ = some (.bool nf) ∧ w'.cell? ⟨bf, of + ix * 2 + 1, none⟩ = some (.slice Ae le ce) ∧ w'.cell? ⟨g7, 0, none⟩ = some (.bool n7) ∧ w'.cell? ⟨g7, 1, none⟩ = some (.slice A7 l7 c7)) (by kernel_rfl) (by kernel_rfl) (by (try dsimp only); go_keep) (fun hHeld => ?_)
      simp only [List.pop_toArray, List.dropLast]
      (refine take_at (i := 0) (oi := _) (v := ?_) rfl rfl (by kernel_rfl) (by kernel_rfl) (by kernel_rfl) (fun _ _ _ h => h) (Or.inl ⟨by rfl, ?_⟩) (by assumption) ?_; rotate_left; (focus (intro w hSw; (try dsimp only at hSw); go_simp; (try with_reducible rfl))); (simp only [put_lit, List.set]))
      (refine take_at (i := 1) (oi := _) (v := ?_) rfl rfl (by kernel_rfl) (by kernel_rfl) (by kernel_rfl) (fun _ _ _ h => h) (Or.inl ⟨by rfl, ?_⟩) (by assumption) ?_; rotate_left; (focus (intro w hSw; (try dsimp only at hSw); go_simp; (try with_reducible rfl))); (simp only [put_lit, List.set]))
      (refine take_at (i := 2) (oi := _) (v := ?_) rfl rfl (by kernel_rfl) (by kernel_rfl) (by kernel_rfl) (fun _ _ _ h => h) (Or.inl ⟨by rfl, ?_⟩) (by assumption) ?_; rotate_left; (focus (intro w hSw; (try dsimp only at hSw); go_simp; (try with_reducible rfl))); (simp only [put_lit, List.set]))
      (refine take_at (i := 3) (oi := _) (v := ?_) rfl rfl (by kernel_rfl) (by kernel_rfl) (by kernel_rfl) (fun _ _ _ h => h) (Or.inl ⟨by rfl, ?_⟩) (by assumption) ?_; rotate_left; (focus (intro w hSw; (try dsimp only at hSw); go_simp; (try with_reducible rfl))); (simp only [put_lit, List.set]))
      (refine take_at (i := 4) (oi := _) (v := ?_) rfl rfl (by kernel_rfl) (by kernel_rfl) (by kernel_rfl) (fun _ _ _ h => h) (Or.inl ⟨by rfl, ?_⟩) (by assumption) ?_; rotate_left; (focus (intro w hSw; (try dsimp only at hSw); go_simp; (try with_reducible rfl))); (simp only [put_lit, List.set]))
      (refine take_at (i := 5) (oi := _) (v := ?_) rfl rfl (by kernel_rfl) (by kernel_rfl) (by kernel_rfl) (fun _ _ _ h => h) (Or.inl ⟨by rfl, ?_⟩) (by assumption) ?_; rotate_left; (focus (intro w hSw; (try dsimp only at hSw); go_simp; (try with_reducible rfl))); (simp only [put_lit, List.set]))
      (refine take_at (i := 6) (oi := _) (v := ?_) rfl rfl (by kernel_rfl) (by kernel_rfl) (by kernel_rfl) (fun _ _ _ h => h) (Or.inl ⟨by rfl, ?_⟩) (by assumption) ?_; rotate_left; (focus (intro w hSw; (try dsimp only at hSw); go_simp; (try with_reducible rfl))); (simp only [put_lit, List.set]))
      refine wpAnyH_ready (rs := [7]) (by kernel_rfl) (by simp) ?_
      refine AllReadyH.cons rfl (fun K hK => ?_) AllReadyH.nil; go_simp
      refine (imul_any _ _ _ _ _ _ _ _ _ _ _ (ZF.out.at_.below (by (repeat (first | exact Below.refl _ _ | refine Below.drew ?_ | refine Below.alloc ?_ (by first | (simp; done) | (simp; omega) | omega) _ | refine Below.setCell ?_ (by first | (simp; done) | (simp; omega) | omega) _)))) (I7.out.hz.at_.below (by (repeat (first | exact Below.refl _ _ | refine Below.drew ?_ | refine Below.alloc ?_ (by first | (simp; done) | (simp; omega) | omega) _ | refine Below.setCell ?_ (by first | (simp; done) | (simp; omega) | omega) _)))) fe.sm fk.sm (fe.mulok _)).mono ?_
      rintro e w7 ⟨n8, A8, l8, c8, rfl, h8, hb8⟩
      rw [← HGI.out] at h8
      obtain ⟨hcx, hfx⟩ := bcellS hb8
      replace I7 := Lib.hid (I7.out.move (Below.trans (by (repeat (first | exact Below.refl _ _ | refine Below.drew ?_ | refine Below.alloc ?_ (by first | (simp; done) | (simp; omega) | omega) _ | refine Below.setCell ?_ (by first | (simp; done) | (simp; omega) | omega) _))) (hb8.mono (by simp <;> omega))))
      replace I5 := Lib.hid (I5.out.move (Below.trans (by (repeat (first | exact Below.refl _ _ | refine Below.drew ?_ | refine Below.alloc ?_ (by first | (simp; done) | (simp; omega) | omega) _ | refine Below.setCell ?_ (by first | (simp; done) | (simp; omega) | omega) _))) (hb8.mono (by simp <;> omega))))
      replace RA := Lib.hid (RA.out.move (Below.trans (by (repeat (first | exact Below.refl _ _ | refine Below.drew ?_ | refine Below.alloc ?_ (by first | (simp; done) | (simp; omega) | omega) _ | refine Below.setCell ?_ (by first | (simp; done) | (simp; omega) | omega) _))) (hb8.mono (by simp <;> omega))))
      replace Hb := Lib.hid (Hb.out.trans ((Below.trans (by (repeat (first | exact Below.refl _ _ | refine Below.drew ?_ | refine Below.alloc ?_ (by first | (simp; done) | (simp; omega) | omega) _ | refine Below.setCell ?_ (by first | (simp; done) | (simp; omega) | omega) _))) (hb8.mono (by simp <;> omega))).mono Hb.out.size))
      have hrw := Hrow.out.below (Below.trans (by (repeat (first | exact Below.refl _ _ | refine Below.drew ?_ | refine Below.alloc ?_ (by first | (simp; done) | (simp; omega) | omega) _ | refine Below.setCell ?_ (by first | (simp; done) | (simp; omega) | omega) _))) (hb8.mono (by simp <;> omega)))
      refine hK.out _ _ ?_ (fun _ => ?_)
      · ((try dsimp only); repeat' apply And.intro) <;> (rw [hcx _ (by go_simp)]; go_simp)
      clear hHeld hK K hcx hfx; rename_i hHeld
      (refine take_at (i := 8) (oi := _) (v := ?_) rfl rfl (by kernel_rfl) (by kernel_rfl) (by kernel_rfl) (fun _ _ _ h => h) (Or.inl ⟨by rfl, ?_⟩) (by assumption) ?_; rotate_left; (focus (intro w hSw; (try dsimp only at hSw); go_simp; (try with_reducible rfl))); (simp only [put_lit, List.set]))
      refine wpAnyH_done (by kernel_rfl) (lastQ_list rfl ?_) _
      have hr2 := hrw.set_ (i := ix) (by rw [hrl]; exact hil) h8
      rw [HST.out] at hr2
      have Hr2 := Lib.hid hr2
      have i72 := I7.out.row hrw (by rw [hrl]; exact hil) ne1 (.bool n8) (.slice A8 l8 c8)
      have i52 := I5.out.row hrw (by rw [hrl]; exact hil) ne3 (.bool n8) (.slice A8 l8 c8)
      have ra2 := RA.out.row hrw (by rw [hrl]; exact hil) ne5 (.bool n8) (.slice A8 l8 c8)
      have hb2 := (Hb.out.setCell (p := ⟨gr, ix * 2, none⟩) (by simp; omega) (.bool n8)).setCell (p := ⟨gr, ix * 2 + 1, none⟩) (by simp; omega) (.slice A8 l8 c8)
      obtain ⟨n9, A9, l9, c9, p0, p1, _⟩ := hrw.elems ix (by rw [hrl]; exact hil)
      have p2 := hrw.frozen (ix * 2)
      have p3 := hrw.frozen (ix * 2 + 1)
      obtain ⟨wq, hwq⟩ : ∃ wq, wq = (w7.setCell ⟨gr, ix * 2, none⟩ (.bool n8)).setCell ⟨gr, ix * 2 + 1, none⟩ (.slice A8 l8 c8) := ⟨_, rfl⟩
      rw [← hwq] at Hr2 i72 i52 ra2 hb2
      have I72 := Lib.hid i72
      have I52 := Lib.hid i52
      have RA2 := Lib.hid ra2
      have HB2 := Lib.hid hb2
      have x0 := i72.c0
      have x1 := i72.c1
      have y0 := i52.c0
      have y1 := i52.c1
      rw [hwq] at x0 x1 y0 y1
      clear hHeld hr2 h8 hb8 hrw e1 e2 d0 d1 I7 I5 RA Hb Hrow ZF i72 i52 ra2 hb2
      go_wp2_with fail
      rw [← hwq]
      clear hwq x0 x1 y0 y1 p0 p1 p2 p3
      refine (imul_any _ _ _ _ _ _ _ _ _ _ _ I72.out.hz.at_ I52.out.hz.at_ fk.sm sQ (fk.mulok _)).mono ?_
      rintro e w9 ⟨n9, A9, l9, c9, rfl, h9, hb9⟩
      rw [← HCK.out] at h9
      have i7 := I72.out.move hb9
      have K0 := Lib.hid ((Hr2.out.below hb9).put (n' := n9) (A' := A9) (l' := l9) (c' := c9) i7 ne2)
      have K1 := Lib.hid (i7.put h9)
      have K2 := Lib.hid ((I52.out.move hb9).far i7 ne4 (.bool n9) (.slice A9 l9 c9))
      have K3 := Lib.hid ((RA2.out.move hb9).farI i7 ne6 (.bool n9) (.slice A9 l9 c9))
      have K4 := Lib.hid (((HB2.out.trans (hb9.mono HB2.out.size)).setCell (p := ⟨g7, 0, none⟩) (by simp; omega) (.bool n9)).setCell (p := ⟨g7, 1, none⟩) (by simp; omega) (.slice A9 l9 c9))
      have x0 := i7.c0
      have x1 := i7.c1
      have x2 := i7.f0
      have x3 := i7.f1
      have hwj : IntKind.i64.wrap ((ix : Int) - 1) = (ix : Int) - 1 := IntWalk.i64_in _ (by omega)
      clear h9 hb9 i7 I72 I52 RA2 HB2 Hr2
      go_wp2_with fail
      go_roundw
      case rel => exact ⟨k + 1, _, _, _, _, by omega, by have := Hix.out; go_num, K0.out, K1.out, K2.out, K3.out, K4.out⟩
      case measure => have := Hix.out; simp [intOf] <;> omega
    · have hkl : k = lf := by omega
      subst hkl
      have e0 : (k : Int) - 1 - (k : Int) = -1 := by omega
      rw [e0]
      have hCk : rowd G k k = C := HCG.out.symm
      rw [hCk] at hrow
      have hp := hrow.poly (cap := k) (by rw [HCl.out]; exact Nat.le_refl _)
      rw [HCl.out] at hp
      have Hp := Lib.hid hp
      have a0 := ra.c0
      have a1 := ra.c1
      have RA := Lib.hid ra
      have Hb := Lib.hid hb
      clear hrow i7 i5 ra hb hp e0 hCk
      go_wp2_with fail
      refine (pshift_any ikN _ _ _ _ _ _ _ _ _ _ Hp.out RA.out.hz cl (by omega) Sh.out).mono ?_
      rintro e w9 ⟨g9, rfl, hr9, hg9, hb9⟩
      rw [← HR.out] at hr9
      have hpl9 := hr9.poly (cap := plen C) (by rw [HR.out, hsh_length, ptrim_length]; exact Nat.le_refl _)
      rw [show R.length = plen C by rw [HR.out, hsh_length, ptrim_length]] at hpl9
      have H9 := Lib.hid hpl9
      have Hb9 := Lib.hid (Hb.out.trans (hb9.mono Hb.out.size))
      have hpc : plen C ≤ 1000000 := by have := plen_le C; have := HCl.out; omega
      clear hr9 hpl9 hb9 hg9 Hp RA Hb a0 a1
      go_wp2_with fail
      refine (rvar_any _ _ _ _ _ (H9.out.at_ ikN) sm (by omega)).mono ?_
      rintro e w10 ⟨rfl, hb10⟩
      rw [HX.out]
      have Hb10 := Lib.hid (Hb9.out.trans (hb10.mono Hb9.out.size))
      clear hb10 H9 Hb9
      go_wp2
      go_ret
      exact ⟨rfl, Hb10.out⟩

/-- what Budan gives -/
def nbud (f : List Int) (z : Int) (q : Nat) (z' : Int) (q' : Nat) : Int := if plen f = 0 ∨ ¬ (z * (q' : Int) < z' * (q : Int)) then 0 else (nsh (ptrim f) z q : Int) - (nsh (ptrim f) z' q' : Int)
theorem nsh_le {f : List Int} (z : Int) (q : Nat) : nsh f z q ≤ f.length := by
  unfold nsh
  refine Nat.le_trans (vst_le _ _).1 (Nat.le_trans (plen_le _) ?_)
  rw [pclr_length]; exact Nat.le_refl _

set_option maxRecDepth 100000 in
set_option maxHeartbeats 4000000 in
theorem budan_any {I : IntPred} (hI : IK I) (Af : Option Addr) (lf cf : Nat) (f : List Int) (n : Bool) (A : Option Addr) (l c : Nat) (B : Option Addr) (m d q : Nat) (z : Int) (n' : Bool) (A' : Option Addr) (l' c' : Nat) (B' : Option Addr) (m' d' q' : Nat) (z' : Int) (w : World) (hf : PolyP I w Af lf cf f) (hfm : lf ≤ 1000000) (fitf : FitP f)
    (hz : IntN w n A l c z) (hq : NatN w B m d q) (hz' : IntN w n' A' l' c' z') (hq' : NatN w B' m' d' q') (h0 : ShFit (ptrim f) z q) (h0' : ShFit (ptrim f) z' q') :
    Calls Tryz.prog 32 #[.slice Af lf cf, .agg #[.bool n, .slice A l c, .slice B m d], .agg #[.bool n', .slice A' l' c', .slice B' m' d']] w fun e w' => e = .returned (.int .i64 (nbud f z q z' q')) ∧ Below w.heap.size w w' := by
  have o1 := below_new w (rbox n A l c B m d)
  have o2 := below_new (w.alloc (rbox n A l c B m d)) (rbox n' A' l' c' B' m' d')
  have b2 : Below w.heap.size w ((w.alloc (rbox n A l c B m d)).alloc (rbox n' A' l' c' B' m' d')) := o1.alloc (by simp) _
  have R1 := (RBox.make hz hq).move o2
  have R2 := RBox.make (hz'.below o1) (hq'.below o1)
  simp only [World.size_alloc] at R2
  have hf2 := hf.below hI b2
  replace R1 := Lib.hid R1
  replace R2 := Lib.hid R2
  have Hb := Lib.hid b2
  have hlf := hf.length
  have hplf := plen_le f
  obtain ⟨V, hV⟩ : ∃ V, V = nbud f z q z' q' := ⟨_, rfl⟩
  rw [← hV]
  have HV := Lib.hid hV
  have H0 := Lib.hid h0
  have H0' := Lib.hid h0'
  have hu := h0.u
  have hv := h0.v
  have hp := h0.p
  have hu' := h0'.u
  have hv' := h0'.v
  have hp' := h0'.p
  clear o1 o2 b2 hz hq hz' hq' hf hV h0 h0'
  go_enter Tryz.func32, Tryz.ntmps32
  go_wp2_with fail
  refine (pnormal_any hI _ _ _ _ _ hf2 fitf.smp (by omega)).mono ?_
  rintro e w1 ⟨g1, rfl, hr1, hg1, hb1⟩
  have hp1 := hr1.poly (cap := plen f) (by rw [ptrim_length]; exact Nat.le_refl _)
  rw [ptrim_length] at hp1
  have HP := Lib.hid hp1
  replace R1 := Lib.hid (R1.out.move hb1)
  replace R2 := Lib.hid (R2.out.move hb1)
  replace Hb := Lib.hid (Hb.out.trans (hb1.mono Hb.out.size))
  obtain ⟨L, hL⟩ : ∃ L, L = plen f := ⟨_, rfl⟩
  rw [← hL] at HP ⊢
  have HL := Lib.hid hL
  clear hf2 hr1 hb1 hp1
  by_cases h1 : L = 0
  · have hb0 : ((L : Int) == 0) = true := by rw [h1]; rfl
    have hV0 : V = 0 := by rw [HV.out]; unfold nbud; rw [if_pos (.inl (by rw [← HL.out]; exact h1))]
    have HV0 := Lib.hid hV0
    clear h1 hV0 hL
    go_wp2_with fail
    go_ret
    exact ⟨by show Ending.returned (.int .i64 0) = _; rw [HV0.out], Hb.out⟩
  · have hb0 : ((L : Int) == 0) = false := by rw [beq_eq_false_iff_ne]; omega
    have x0 := R1.out.c0
    have x1 := R1.out.c1
    have x2 := R1.out.c2
    have y0 := R2.out.c0
    have y1 := R2.out.c1
    have y2 := R2.out.c2
    have H1 := Lib.hid (show 1 ≤ plen f by omega)
    clear h1 hL
    go_wp2_with fail
    refine (rcmp_any _ _ _ _ _ _ _ _ _ _ _ _ _ _ _ _ _ _ _ R1.out.hz.at_ R1.out.hq.at_ R2.out.hz.at_ R2.out.hq.at_ (by omega) (by omega) (u64_fit hu) (nat_fit hv) (u64_fit hu') (nat_fit hv')).mono ?_
    rintro e w2 ⟨rfl, hb2⟩
    replace R1 := Lib.hid (R1.out.move hb2)
    replace R2 := Lib.hid (R2.out.move hb2)
    replace HP := Lib.hid (HP.out.below ikN hb2)
    replace Hb := Lib.hid (Hb.out.trans (hb2.mono Hb.out.size))
    clear hb2 x0 x1 x2 y0 y1 y2
    by_cases hlt : z * (q' : Int) < z' * (q : Int)
    · have hcm : ¬ (0 ≤ cmpz (z * (q' : Int)) (z' * (q : Int))) := by unfold cmpz; rw [if_pos hlt]; omega
      have x0 := R1.out.c0
      have x1 := R1.out.c1
      have x2 := R1.out.c2
      have y0 := R2.out.c0
      have y1 := R2.out.c1
      have y2 := R2.out.c2
      have hVe : V = (nsh (ptrim f) z q : Int) - (nsh (ptrim f) z' q' : Int) := by
        rw [HV.out]; unfold nbud
        rw [if_neg]
        rintro (h | h)
        · have := H1.out; omega
        · exact h hlt
      have tfp := fitf.trim
      have n1 := nsh_le (f := ptrim f) z q
      have n2 := nsh_le (f := ptrim f) z' q'
      have hptl := ptrim_length f
      obtain ⟨p, hpp⟩ : ∃ p, p = ptrim f := ⟨_, rfl⟩
      rw [← hpp] at HP H0 H0' hVe tfp n1 n2 hptl
      obtain ⟨C, hC⟩ : ∃ C, C = cmpz (z * (q' : Int)) (z' * (q : Int)) := ⟨_, rfl⟩
      rw [← hC] at hcm ⊢
      obtain ⟨N1, hN1⟩ : ∃ N, N = nsh p z q := ⟨_, rfl⟩
      obtain ⟨N2, hN2⟩ : ∃ N, N = nsh p z' q' := ⟨_, rfl⟩
      rw [← hN1, ← hN2] at hVe
      rw [← hN1] at n1
      rw [← hN2] at n2
      have HN1 := Lib.hid hN1
      have HN2 := Lib.hid hN2
      have HVe := Lib.hid hVe
      have hLe : L ≤ 1000000 := by have := HL.out; omega
      have hw : IntKind.i64.wrap ((N1 : Int) - (N2 : Int)) = (N1 : Int) - (N2 : Int) := IntWalk.i64_in _ (by omega)
      obtain ⟨wb, hwb⟩ : ∃ wb, wb = w2 := ⟨_, rfl⟩
      rw [← hwb] at R1 R2 HP Hb x0 x1 x2 y0 y1 y2 ⊢
      clear hVe hC hN1 hN2 hlt hpp hwb
      go_wp2_with fail
      go_region_held3 (fun w' => w'.cell? ⟨w.heap.size, 0, none⟩ = some (.bool n) ∧ w'.cell? ⟨w.heap.size, 1, none⟩ = some (.slice A l c) ∧ w'.cell? ⟨w.heap.size, 2, none⟩ = some (.slice B m d) ∧ w'.cell? ⟨w.heap.size + 1, 0, none⟩ = some (.bool n') ∧ w'.cell? ⟨w.heap.size + 1, 1, none⟩ = some (.slice A' l' c') ∧ w'.cell? ⟨w.heap.size + 1, 2, none⟩ = some (.slice B' m' d')) (go_keep) (first
        | (go_at_call 68; (have _hx := G7); go_must (refine (shifted_any _ _ _ _ _ _ _ _ _ _ _ _ _ _ ?_ tfp hLe ?_ ?_ H0'.out).mono ?_; (exact ((HP.out.below ikN G7.out).below ikN (by (repeat (first | exact Below.refl _ _ | refine Below.drew ?_ | refine Below.alloc ?_ (by first | (simp; done) | (simp; omega) | omega) _ | refine Below.setCell ?_ (by first | (simp; done) | (simp; omega) | omega) _))))); (exact (R2.out.move G7.out).hz.below (by (repeat (first | exact Below.refl _ _ | refine Below.drew ?_ | refine Below.alloc ?_ (by first | (simp; done) | (simp; omega) | omega) _ | refine Below.setCell ?_ (by first | (simp; done) | (simp; omega) | omega) _)))); (exact (R2.out.move G7.out).hq.below (by (repeat (first | exact Below.refl _ _ | refine Below.drew ?_ | refine Below.alloc ?_ (by first | (simp; done) | (simp; omega) | omega) _ | refine Below.setCell ?_ (by first | (simp; done) | (simp; omega) | omega) _)))); rintro e w9 ⟨rfl, hb9⟩; rw [show nsh p z' q' = N2 from HN2.out.symm]; have G9 : Hid (Below wb.heap.size wb w9) := Lib.hid (G7.out.trans ((Below.trans (by (repeat (first | exact Below.refl _ _ | refine Below.drew ?_ | refine Below.alloc ?_ (by first | (simp; done) | (simp; omega) | omega) _ | refine Below.setCell ?_ (by first | (simp; done) | (simp; omega) | omega) _))) (hb9.mono (by simp <;> omega))).mono G7.out.size)); obtain ⟨hcx, hfx⟩ := bcellS hb9; have j0 : World.cell? w9 ⟨w.heap.size, 0, none⟩ = some (.bool n) := (hcx _ (by go_simp)).trans (by go_simp); have j1 : World.cell? w9 ⟨w.heap.size, 1, none⟩ = some (.slice A l c) := (hcx _ (by go_simp)).trans (by go_simp); have j2 : World.cell? w9 ⟨w.heap.size, 2, none⟩ = some (.slice B m d) := (hcx _ (by go_simp)).trans (by go_simp); have j3 : World.cell? w9 ⟨w.heap.size + 1, 0, none⟩ = some (.bool n') := (hcx _ (by go_simp)).trans (by go_simp); have j4 : World.cell? w9 ⟨w.heap.size + 1, 1, none⟩ = some (.slice A' l' c') := (hcx _ (by go_simp)).trans (by go_simp); have j5 : World.cell? w9 ⟨w.heap.size + 1, 2, none⟩ = some (.slice B' m' d') := (hcx _ (by go_simp)).trans (by go_simp); clear hcx hfx hb9))
        | (go_at_call 68; go_must (refine (shifted_any _ _ _ _ _ _ _ _ _ _ _ _ _ _ ?_ tfp hLe ?_ ?_ H0.out).mono ?_; (exact HP.out.below ikN (by (repeat (first | exact Below.refl _ _ | refine Below.drew ?_ | refine Below.alloc ?_ (by first | (simp; done) | (simp; omega) | omega) _ | refine Below.setCell ?_ (by first | (simp; done) | (simp; omega) | omega) _)))); (exact R1.out.hz.below (by (repeat (first | exact Below.refl _ _ | refine Below.drew ?_ | refine Below.alloc ?_ (by first | (simp; done) | (simp; omega) | omega) _ | refine Below.setCell ?_ (by first | (simp; done) | (simp; omega) | omega) _)))); (exact R1.out.hq.below (by (repeat (first | exact Below.refl _ _ | refine Below.drew ?_ | refine Below.alloc ?_ (by first | (simp; done) | (simp; omega) | omega) _ | refine Below.setCell ?_ (by first | (simp; done) | (simp; omega) | omega) _)))); rintro e w7 ⟨rfl, hb7⟩; rw [show nsh p z q = N1 from HN1.out.symm]; have G7 : Hid (Below wb.heap.size wb w7) := Lib.hid (Below.trans (by (repeat (first | exact Below.refl _ _ | refine Below.drew ?_ | refine Below.alloc ?_ (by first | (simp; done) | (simp; omega) | omega) _ | refine Below.setCell ?_ (by first | (simp; done) | (simp; omega) | omega) _))) (hb7.mono (by simp <;> omega))); obtain ⟨hcx, hfx⟩ := bcellS hb7; have i0 : World.cell? w7 ⟨w.heap.size, 0, none⟩ = some (.bool n) := (hcx _ (by go_simp)).trans (by go_simp); have i1 : World.cell? w7 ⟨w.heap.size, 1, none⟩ = some (.slice A l c) := (hcx _ (by go_simp)).trans (by go_simp); have i2 : World.cell? w7 ⟨w.heap.size, 2, none⟩ = some (.slice B m d) := (hcx _ (by go_simp)).trans (by go_simp); have i3 : World.cell? w7 ⟨w.heap.size + 1, 0, none⟩ = some (.bool n') := (hcx _ (by go_simp)).trans (by go_simp); have i4 : World.cell? w7 ⟨w.heap.size + 1, 1, none⟩ = some (.slice A' l' c') := (hcx _ (by go_simp)).trans (by go_simp); have i5 : World.cell? w7 ⟨w.heap.size + 1, 2, none⟩ = some (.slice B' m' d') := (hcx _ (by go_simp)).trans (by go_simp); clear hcx hfx hb7)))
      rename_i hHeld
      have Hb9 := Lib.hid (Hb.out.trans (G9.out.mono Hb.out.size))
      clear hHeld j0 j1 j2 j3 j4 j5 i0 i1 i2 i3 i4 i5 x0 x1 x2 y0 y1 y2 R1 R2 HP Hb G7 G9
      go_wp2
      go_ret
      exact ⟨by show Ending.returned (.int .i64 ((N1 : Int) - (N2 : Int))) = _; rw [HVe.out], Hb9.out⟩
    · have hcm : 0 ≤ cmpz (z * (q' : Int)) (z' * (q : Int)) := by unfold cmpz; rw [if_neg hlt]; split <;> omega
      have hV0 : V = 0 := by rw [HV.out]; unfold nbud; rw [if_pos (.inr hlt)]
      have HV0 := Lib.hid hV0
      obtain ⟨C, hC⟩ : ∃ C, C = cmpz (z * (q' : Int)) (z' * (q : Int)) := ⟨_, rfl⟩
      rw [← hC] at hcm ⊢
      clear hV0 hC hlt
      go_wp2_with fail
      go_ret
      exact ⟨by show Ending.returned (.int .i64 0) = _; rw [HV0.out], Hb.out⟩
end Go.Proofs.YtdihefmjfnlpcaaGreat
