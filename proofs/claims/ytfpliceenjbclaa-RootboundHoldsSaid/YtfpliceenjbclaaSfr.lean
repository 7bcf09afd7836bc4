/- The walk of cylinderref14.Shift. -/
import Derived.Test.YtfpliceenjbclaaIrow
import Derived.Test.YtfpliceenjbclaaTay
namespace Go.Proofs.Ytfpliceenjbclaa
open Go.RowKit

/-- the share of the coefficient below -/
def shr (y : List Int) (j : Nat) : Int := if j = 0 then 0 else y.getD (j - 1) 0
/-- (x + c) * y when k coefficients of y are done -/
def mpl (c : Int) (y : List Int) (k : Nat) : List Int := (List.range (y.length + 1)).map fun j => if j < k then shr y j + c * y.getD j 0 else if j = k then shr y k else 0
theorem mpl_length (c : Int) (y : List Int) (k : Nat) : (mpl c y k).length = y.length + 1 := by simp [mpl]
theorem mpl_getE (c : Int) (y : List Int) (k : Nat) {j : Nat} (h : j < y.length + 1) : (mpl c y k)[j]? = some (if j < k then shr y j + c * y.getD j 0 else if j = k then shr y k else 0) := by
  unfold mpl
  rw [List.getElem?_map, List.getElem?_range h]
  rfl
theorem mpl_getD (c : Int) (y : List Int) (k : Nat) {j : Nat} (h : j < y.length + 1) : (mpl c y k).getD j 0 = if j < k then shr y j + c * y.getD j 0 else if j = k then shr y k else 0 := by
  rw [List.getD_eq_getElem?_getD, mpl_getE c y k h]; rfl
theorem mpl_zero (c : Int) (y : List Int) : mpl c y 0 = List.replicate (y.length + 1) 0 := by
  apply List.ext_getElem?
  intro j
  by_cases h : j < y.length + 1
  · rw [mpl_getE c y 0 h, List.getElem?_replicate, if_pos h]
    by_cases h0 : j = 0
    · simp [h0, shr]
    · simp [h0]
  · rw [List.getElem?_eq_none (by rw [mpl_length]; omega), List.getElem?_eq_none (by simp; omega)]
theorem mpl_step (c : Int) (y : List Int) {k : Nat} (hk : k < y.length) : ((mpl c y k).set (k + 1) (y.getD k 0)).set k (shr y k + c * y.getD k 0) = mpl c y (k + 1) := by
  apply List.ext_getElem?
  intro j
  by_cases h : j < y.length + 1
  · rw [mpl_getE c y (k + 1) h]
    by_cases h1 : j = k
    · subst h1
      rw [List.getElem?_set_self (by simp [mpl_length]; omega), if_pos (by omega)]
    · rw [List.getElem?_set_ne (by omega)]
      by_cases h2 : j = k + 1
      · subst h2
        rw [List.getElem?_set_self (by rw [mpl_length]; omega), if_neg (by omega), if_pos rfl]
        simp [shr]
      · rw [List.getElem?_set_ne (by omega), mpl_getE c y k h]
        by_cases h3 : j < k
        · rw [if_pos h3, if_pos (by omega)]
        · rw [if_neg h3, if_neg h1, if_neg (by omega), if_neg h2]
  · rw [List.getElem?_eq_none (by simp [mpl_length]; omega), List.getElem?_eq_none (by rw [mpl_length]; omega)]
theorem mulX_get (c : Int) : ∀ (y : List Int) (s : Int) (j : Nat), j < y.length + 1 → (mulX c s y)[j]? = some ((if j = 0 then s else y.getD (j - 1) 0) + c * y.getD j 0) := by
  intro y
  induction y with
  | nil =>
    intro s j h
    have : j = 0 := by simp at h; omega
    subst this
    simp [mulX]
  | cons b y ih =>
    intro s j h
    cases j with
    | zero => simp [mulX]
    | succ j =>
      rw [mulX, List.getElem?_cons_succ, ih b j (by simpa using h)]
      cases j with
      | zero => simp
      | succ j => simp
theorem mpl_full (c : Int) (y : List Int) : mpl c y y.length = mulX c 0 y := by
  apply List.ext_getElem?
  intro j
  by_cases h : j < y.length + 1
  · rw [mpl_getE c y _ h, mulX_get c y 0 j h]
    by_cases h1 : j < y.length
    · rw [if_pos h1]; rfl
    · have hj : j = y.length := by omega
      rw [if_neg h1, if_pos hj, hj]
      simp [shr]
  · rw [List.getElem?_eq_none (by rw [mpl_length]; omega), List.getElem?_eq_none (by rw [mulX_length]; omega)]
theorem mulX_head (c a : Int) (y : List Int) : (mulX c 0 y).set 0 ((mulX c 0 y).getD 0 0 + a) = mulX c a y := by
  cases y with
  | nil => simp [mulX]
  | cons b y => simp [mulX]; omega

/-- what the reference's shift needs: nothing overflows -/
structure RsOK (c : Int) (f : List Int) : Prop where
  hc : c.natAbs ≤ 1024
  hf : Tiny 1125899906842624 f
  hy : ∀ j, Tiny 1125899906842624 (hsh c (f.drop j))

theorem RsOK.prod {c : Int} {f : List Int} (h : RsOK c f) (j k : Nat) : (c * (hsh c (f.drop j)).getD k 0).natAbs ≤ 1152921504606846976 := by
  rw [Int.natAbs_mul]
  exact Nat.le_trans (Nat.mul_le_mul h.hc (h.hy j k)) (by decide)

set_option maxRecDepth 100000 in
set_option maxHeartbeats 4000000 in
theorem rshift_any (A : Option Addr) (len cap : Nat) (f : List Int) (c : Int) (w : World) (h : I64At w A len cap f) (hm : len ≤ 1000) (hok : RsOK c f) :
    Calls Try.prog 92 #[.slice A len cap, .int .i64 c] w fun e w' => ∃ A' cap', e = .returned (.slice A' (plen (hsh c f)) cap') ∧ I64At w' A' (plen (hsh c f)) cap' (ptrim (hsh c f)) ∧ Below w.heap.size w w' := by
  have hlen := Lib.hid h.length
  have Hok := Lib.hid hok
  clear hok
  go_enter Try.func92, Try.ntmps92
  go_wp2
  go_loopw [5, 6] (fun v i wr => ∃ (j : Nat) (A1 : Option Addr) (c1 : Nat), j ≤ len ∧ i = .int .i64 ((len : Int) - 1 - (j : Int)) ∧ v = .slice A1 j c1 ∧ I64At wr A1 j c1 (hsh c (f.drop (len - j))) ∧ Below w.heap.size w wr) (fun _ i _ => (intOf i + 1).toNat)
  case atStart =>
    refine ⟨0, none, 0, Nat.zero_le _, ?_, rfl, ?_, Below.refl _ _⟩
    · congr 1; omega
    · have e : hsh c (f.drop (len - 0)) = [] := by rw [List.drop_eq_nil_of_le (by rw [hlen.out]; omega)]; rfl
      rw [e]
      exact ⟨rfl, Nat.le_refl _, .inl rfl⟩
  case round =>
    obtain ⟨j, A1, c1, hjl, rfl, rfl, hout, hbw⟩ := hrel
    obtain ⟨wo, rfl⟩ : ∃ wo : World, wo = wr := ⟨_, rfl⟩
    have Hbw := Lib.hid hbw
    by_cases hlt : j < len
    · obtain ⟨n, hn⟩ : ∃ n, len = j + 1 + n := ⟨len - 1 - j, by omega⟩
      rw [show (len : Int) - 1 - (j : Int) = (n : Int) by omega]
      have Hn := Lib.hid hn
      obtain ⟨y, hy⟩ : ∃ y, y = hsh c (f.drop (len - j)) := ⟨_, rfl⟩
      rw [← hy] at hout
      have hyl := Lib.hid hout.length
      have Hy := Lib.hid hy
      clear hn hy
      go_wp2_with (at_make; refine wpList_make_int _ rfl (.tmp 18) (.tmp 18) rfl (j + 1) rfl rfl (by omega) ?_)
      intro w1 hz hb1 hsz
      have hmz := mpl_zero c y
      rw [hyl.out] at hmz
      rw [← hmz] at hz
      have Hz := Lib.hid hz
      have Hb1 := Lib.hid hb1
      clear hz hb1 hsz hmz
      go_wp2
      go_loopw [8] (fun s8 wx => ∃ k : Nat, k ≤ j ∧ s8 = .int .i64 (k : Int) ∧ IRow wx wo.heap.size (mpl c y k) ∧ Below wo.heap.size wo wx) (fun s8 _ => j - (intOf s8).toNat)
      case atStart => exact ⟨0, Nat.zero_le _, rfl, Hz.out, Hb1.out⟩
      case round =>
        clear Hz Hb1
        obtain ⟨k, hk, rfl, hrow, hbx⟩ := hrel
        have Hrow := Lib.hid hrow
        have Hbx := Lib.hid hbx
        by_cases hkj : k < j
        · obtain ⟨b, off, rfl, hb, hcc⟩ := hout.at_ (by omega)
          have e0 := (hbx.cell (p := ⟨b, off + k, none⟩) hb).trans (hcc k hkj)
          have e1 := hrow.cell (i := k) (by rw [mpl_length, hyl.out]; omega)
          have e2 := hrow.cell (i := k + 1) (by rw [mpl_length, hyl.out]; omega)
          rw [mpl_getD c y k (by rw [hyl.out]; omega), if_neg (by omega), if_pos rfl] at e1
          rw [mpl_getD c y k (by rw [hyl.out]; omega), if_neg (by omega), if_neg (by omega)] at e2
          have f1 := hrow.frozen k
          have f2 := hrow.frozen (k + 1)
          have hst := Lib.hid (mpl_step c y (k := k) (by rw [hyl.out]; omega))
          have hty : (y.getD k 0).natAbs ≤ 1125899906842624 := by rw [Hy.out]; exact Hok.out.hy _ k
          have hts : (shr y k).natAbs ≤ 1125899906842624 := by
            unfold shr
            split
            · simp
            · rw [Hy.out]; exact Hok.out.hy _ _
          have htp : (c * y.getD k 0).natAbs ≤ 1152921504606846976 := by rw [Hy.out]; exact Hok.out.prod _ k
          obtain ⟨v, hv⟩ : ∃ v, v = y.getD k 0 := ⟨_, rfl⟩
          obtain ⟨s, hs⟩ : ∃ s, s = shr y k := ⟨_, rfl⟩
          rw [← hv] at e0 hty htp
          rw [← hs] at e1 hts
          have Hv := Lib.hid hv
          have Hs := Lib.hid hs
          have hbne : b ≠ wo.heap.size := by omega
          have hbne2 : wo.heap.size ≠ b := by omega
          clear hrow hbx hcc hout h hv hs hb
          have i1 : IntKind.i64.wrap ((k : Int) + 1) = (k : Int) + 1 := IntWalk.i64_in _ (by omega)
          have i2 : 0 ≤ (k : Int) + 1 := by omega
          have i3 : ((k : Int) + 1).toNat = k + 1 := by omega
          have i4 : (k : Int) + 1 < (j : Int) + 1 := by omega
          have i5 : (k : Int) < (j : Int) + 1 := by omega
          have i6 : k < j + 1 := by omega
          have i7 : IntKind.i64.wrap v = v := IntWalk.i64_in _ (by omega)
          have i8 : IntKind.i64.wrap (c * v) = c * v := IntWalk.i64_in _ (by omega)
          have i9 : IntKind.i64.wrap (s + c * v) = s + c * v := IntWalk.i64_in _ (by omega)
          go_wp2_with fail
          refine wp_region_last (S := fun w' => w'.cell? ⟨b, off + k, none⟩ = some (.int .i64 v) ∧ w'.cell? ⟨wo.heap.size, k + 1, none⟩ = some (.int .i64 0)) (by kernel_rfl) (by kernel_rfl) (by (try dsimp only); go_keep) (fun hHeld => ?_)
          simp only [List.pop_toArray, List.dropLast]
          (refine take_at (i := 0) (oi := _) (v := ?_) rfl rfl (by kernel_rfl) (by kernel_rfl) (by kernel_rfl) (fun _ _ _ h => h) (Or.inl ⟨by rfl, ?_⟩) (by assumption) ?_; rotate_left; (focus (intro w hSw; (try dsimp only at hSw); go_simp; (try with_reducible rfl))); (simp only [put_lit, List.set]))
          (refine take_at (i := 1) (oi := _) (v := ?_) rfl rfl (by kernel_rfl) (by kernel_rfl) (by kernel_rfl) (fun _ _ _ h => h) (Or.inl ⟨by rfl, ?_⟩) (by assumption) ?_; rotate_left; (focus (intro w hSw; (try dsimp only at hSw); go_simp; (try with_reducible rfl))); (simp only [put_lit, List.set]))
          (refine take_at (i := 2) (oi := _) (v := ?_) rfl rfl (by kernel_rfl) (by kernel_rfl) (by kernel_rfl) (fun _ _ _ h => h) (Or.inl ⟨by rfl, ?_⟩) (by assumption) ?_; rotate_left; (focus (intro w hSw; (try dsimp only at hSw); go_simp; (try with_reducible rfl))); (simp only [put_lit, List.set]))
          (refine take_at (i := 3) (oi := _) (v := ?_) rfl rfl (by kernel_rfl) (by kernel_rfl) (by kernel_rfl) (fun _ _ _ h => h) (Or.inl ⟨by rfl, ?_⟩) (by assumption) ?_; rotate_left; (focus (intro w hSw; (try dsimp only at hSw); go_simp; (try with_reducible rfl))); (simp only [put_lit, List.set]))
          (refine take_at (i := 4) (oi := _) (v := ?_) rfl rfl (by kernel_rfl) (by kernel_rfl) (by kernel_rfl) (fun _ _ _ h => h) (Or.inl ⟨by rfl, ?_⟩) (by assumption) ?_; rotate_left; (focus (intro w hSw; (try dsimp only at hSw); go_simp; (try with_reducible rfl))); (simp only [put_lit, List.set]))
          (refine take_at (i := 5) (oi := _) (v := ?_) rfl rfl (by kernel_rfl) (by kernel_rfl) (by kernel_rfl) (fun _ _ _ h => h) (Or.inl ⟨by rfl, ?_⟩) (by assumption) ?_; rotate_left; (focus (intro w hSw; (try dsimp only at hSw); go_simp; (try with_reducible rfl))); (simp only [put_lit, List.set]))
          (refine take_at (i := 6) (oi := _) (v := ?_) rfl rfl (by kernel_rfl) (by kernel_rfl) (by kernel_rfl) (fun _ _ _ h => h) (Or.inl ⟨by rfl, ?_⟩) (by assumption) ?_; rotate_left; (focus (intro w hSw; (try dsimp only at hSw); go_simp; (try with_reducible rfl))); (simp only [put_lit, List.set]))
          (refine take_at (i := 7) (oi := _) (v := ?_) rfl rfl (by kernel_rfl) (by kernel_rfl) (by kernel_rfl) (fun _ _ _ h => h) (Or.inl ⟨by rfl, ?_⟩) (by assumption) ?_; rotate_left; (focus (intro w hSw; (try dsimp only at hSw); go_simp; (try with_reducible rfl))); (simp only [put_lit, List.set]))
          (refine take_at (i := 8) (oi := _) (v := ?_) rfl rfl (by kernel_rfl) (by kernel_rfl) (by kernel_rfl) (fun _ _ _ h => h) (Or.inl ⟨by rfl, ?_⟩) (by assumption) ?_; rotate_left; (focus (intro w hSw; (try dsimp only at hSw); go_simp; (try with_reducible rfl))); (simp only [put_lit, List.set]))
          (refine take_at (i := 9) (oi := _) (v := ?_) rfl rfl (by kernel_rfl) (by kernel_rfl) (by kernel_rfl) (fun _ _ _ h => h) (Or.inl ⟨by rfl, ?_⟩) (by assumption) ?_; rotate_left; (focus (intro w hSw; (try dsimp only at hSw); go_simp; (try with_reducible rfl))); (simp only [put_lit, List.set]))
          (refine take_at (i := 10) (oi := _) (v := ?_) rfl rfl (by kernel_rfl) (by kernel_rfl) (by kernel_rfl) (fun _ _ _ h => h) (Or.inl ⟨by rfl, ?_⟩) (by assumption) ?_; rotate_left; (focus (intro w hSw; (try dsimp only at hSw); go_simp; (try with_reducible rfl))); (simp only [put_lit, List.set]))
          refine wpAnyH_done (by kernel_rfl) (lastQ_list rfl ?_) _
          clear hHeld
          go_wp2_with fail
          refine wp_region_last (S := fun w' => w'.cell? ⟨b, off + k, none⟩ = some (.int .i64 v) ∧ w'.cell? ⟨wo.heap.size, k, none⟩ = some (.int .i64 s)) (by kernel_rfl) (by kernel_rfl) (by (try dsimp only); refine ⟨?_, ?_⟩ <;> go_simp) (fun hHeld => ?_)
          simp only [List.pop_toArray, List.dropLast]
          (refine take_at (i := 0) (oi := _) (v := ?_) rfl rfl (by kernel_rfl) (by kernel_rfl) (by kernel_rfl) (fun _ _ _ h => h) (Or.inl ⟨by rfl, ?_⟩) (by assumption) ?_; rotate_left; (focus (intro w hSw; (try dsimp only at hSw); go_simp; (try with_reducible rfl))); (simp only [put_lit, List.set]))
          (refine take_at (i := 1) (oi := _) (v := ?_) rfl rfl (by kernel_rfl) (by kernel_rfl) (by kernel_rfl) (fun _ _ _ h => h) (Or.inl ⟨by rfl, ?_⟩) (by assumption) ?_; rotate_left; (focus (intro w hSw; (try dsimp only at hSw); go_simp; (try with_reducible rfl))); (simp only [put_lit, List.set]))
          (refine take_at (i := 2) (oi := _) (v := ?_) rfl rfl (by kernel_rfl) (by kernel_rfl) (by kernel_rfl) (fun _ _ _ h => h) (Or.inl ⟨by rfl, ?_⟩) (by assumption) ?_; rotate_left; (focus (intro w hSw; (try dsimp only at hSw); go_simp; (try with_reducible rfl))); (simp only [put_lit, List.set]))
          (refine take_at (i := 3) (oi := _) (v := ?_) rfl rfl (by kernel_rfl) (by kernel_rfl) (by kernel_rfl) (fun _ _ _ h => h) (Or.inl ⟨by rfl, ?_⟩) (by assumption) ?_; rotate_left; (focus (intro w hSw; (try dsimp only at hSw); go_simp; (try with_reducible rfl))); (simp only [put_lit, List.set]))
          (refine take_at (i := 4) (oi := _) (v := ?_) rfl rfl (by kernel_rfl) (by kernel_rfl) (by kernel_rfl) (fun _ _ _ h => h) (Or.inl ⟨by rfl, ?_⟩) (by assumption) ?_; rotate_left; (focus (intro w hSw; (try dsimp only at hSw); go_simp; (try with_reducible rfl))); (simp only [put_lit, List.set]))
          (refine take_at (i := 5) (oi := _) (v := ?_) rfl rfl (by kernel_rfl) (by kernel_rfl) (by kernel_rfl) (fun _ _ _ h => h) (Or.inl ⟨by rfl, ?_⟩) (by assumption) ?_; rotate_left; (focus (intro w hSw; (try dsimp only at hSw); go_simp; (try with_reducible rfl))); (simp only [put_lit, List.set]))
          (refine take_at (i := 6) (oi := _) (v := ?_) rfl rfl (by kernel_rfl) (by kernel_rfl) (by kernel_rfl) (fun _ _ _ h => h) (Or.inl ⟨by rfl, ?_⟩) (by assumption) ?_; rotate_left; (focus (intro w hSw; (try dsimp only at hSw); go_simp; (try with_reducible rfl))); (simp only [put_lit, List.set]))
          (refine take_at (i := 7) (oi := _) (v := ?_) rfl rfl (by kernel_rfl) (by kernel_rfl) (by kernel_rfl) (fun _ _ _ h => h) (Or.inl ⟨by rfl, ?_⟩) (by assumption) ?_; rotate_left; (focus (intro w hSw; (try dsimp only at hSw); go_simp; (try with_reducible rfl))); (simp only [put_lit, List.set]))
          (refine take_at (i := 8) (oi := _) (v := ?_) rfl rfl (by kernel_rfl) (by kernel_rfl) (by kernel_rfl) (fun _ _ _ h => h) (Or.inl ⟨by rfl, ?_⟩) (by assumption) ?_; rotate_left; (focus (intro w hSw; (try dsimp only at hSw); go_simp; (try with_reducible rfl))); (simp only [put_lit, List.set]))
          (refine take_at (i := 9) (oi := _) (v := ?_) rfl rfl (by kernel_rfl) (by kernel_rfl) (by kernel_rfl) (fun _ _ _ h => h) (Or.inl ⟨by rfl, ?_⟩) (by assumption) ?_; rotate_left; (focus (intro w hSw; (try dsimp only at hSw); go_simp; (try with_reducible rfl))); (simp only [put_lit, List.set]))
          (refine take_at (i := 10) (oi := _) (v := ?_) rfl rfl (by kernel_rfl) (by kernel_rfl) (by kernel_rfl) (fun _ _ _ h => h) (Or.inl ⟨by rfl, ?_⟩) (by assumption) ?_; rotate_left; (focus (intro w hSw; (try dsimp only at hSw); go_simp; (try with_reducible rfl))); (simp only [put_lit, List.set]))
          (refine take_at (i := 11) (oi := _) (v := ?_) rfl rfl (by kernel_rfl) (by kernel_rfl) (by kernel_rfl) (fun _ _ _ h => h) (Or.inl ⟨by rfl, ?_⟩) (by assumption) ?_; rotate_left; (focus (intro w hSw; (try dsimp only at hSw); go_simp; (try with_reducible rfl))); (simp only [put_lit, List.set]))
          refine wpAnyH_done (by kernel_rfl) (lastQ_list rfl ?_) _
          clear hHeld
          go_wp2
          go_roundw
          case rel =>
            refine ⟨k + 1, by omega, by go_num, ?_, ((Hbx.out.setCell (p := ⟨wo.heap.size, k + 1, none⟩) (Nat.le_refl _) _).setCell (p := ⟨wo.heap.size, k, none⟩) (Nat.le_refl _) _).drew.drew⟩
            rw [← hst.out, ← Hs.out, ← Hv.out]
            exact (Hrow.out.set_ (k + 1) v).set_ k (s + c * v)
          case measure => simp [intOf]; omega
        · have hkj2 : k = j := by omega
          subst hkj2
          have hfull := mpl_full c y
          rw [hyl.out] at hfull
          rw [hfull] at hrow
          obtain ⟨b, off, rfl, hb, hcc⟩ := h.at_ (by omega)
          have hb0 := Hbw.out.size
          have e0 := ((Hbw.out.trans (hbx.mono Hbw.out.size)).cell (p := ⟨b, off + n, none⟩) hb).trans (hcc n (by have := Hn.out; omega))
          have hml : 0 < (mulX c 0 y).length := by rw [mulX_length]; omega
          have e1 := hrow.cell (i := 0) hml
          have f1 := hrow.frozen 0
          have hhead := Lib.hid (mulX_head c (f.getD n 0) y)
          have hx0 : ((mulX c 0 y).getD 0 0).natAbs ≤ 1152921504606846976 := by
            rw [List.getD_eq_getElem?_getD, mulX_get c y 0 0 (by omega)]
            have h3 : (c * y.getD 0 0).natAbs ≤ 1152921504606846976 := by rw [Hy.out]; exact Hok.out.prod _ 0
            simpa using h3
          have hfn := Hok.out.hf n
          have hdr : hsh c (f.drop n) = mulX c (f.getD n 0) y := by
            have h4 : len - k = n + 1 := by have := Hn.out; omega
            rw [drop_cons_getD f (by rw [hlen.out]; have := Hn.out; omega), hsh, Hy.out, h4]
          have Hdr := Lib.hid hdr
          have hylen : (mulX c 0 y).length = k + 1 := by rw [mulX_length, hyl.out]
          have Hyl2 := Lib.hid hylen
          have Hrow := Lib.hid hrow
          have hbne : wo.heap.size ≠ b := by omega
          obtain ⟨x, hx⟩ : ∃ x, x = (mulX c 0 y).getD 0 0 := ⟨_, rfl⟩
          obtain ⟨a, ha⟩ : ∃ a, a = f.getD n 0 := ⟨_, rfl⟩
          rw [← hx] at e1 hx0
          rw [← ha] at e0 hfn
          have Hx := Lib.hid hx
          have Ha := Lib.hid ha
          have hnl : n < len := by have := Hn.out; omega
          have hnl2 : (n : Int) < (len : Int) := by omega
          have i1 : IntKind.i64.wrap (x + a) = x + a := IntWalk.i64_in _ (by omega)
          have i2 : (0 : Int) < (k : Int) + 1 := by omega
          have Hout := Lib.hid hout
          clear hrow hbx hcc hout hx ha hdr hylen hfull hml hb0
          go_wp2_with fail
          refine wp_region_last (S := fun w' => w'.cell? ⟨b, off + n, none⟩ = some (.int .i64 a) ∧ w'.cell? ⟨wo.heap.size, 0, none⟩ = some (.int .i64 x)) (by kernel_rfl) (by kernel_rfl) (by (try dsimp only); refine ⟨?_, ?_⟩ <;> go_simp) (fun hHeld => ?_)
          simp only [List.pop_toArray, List.dropLast]
          (refine take_at (i := 0) (oi := _) (v := ?_) rfl rfl (by kernel_rfl) (by kernel_rfl) (by kernel_rfl) (fun _ _ _ h => h) (Or.inl ⟨by rfl, ?_⟩) (by assumption) ?_; rotate_left; (focus (intro w hSw; (try dsimp only at hSw); go_simp; (try with_reducible rfl))); (simp only [put_lit, List.set]))
          (refine take_at (i := 1) (oi := _) (v := ?_) rfl rfl (by kernel_rfl) (by kernel_rfl) (by kernel_rfl) (fun _ _ _ h => h) (Or.inl ⟨by rfl, ?_⟩) (by assumption) ?_; rotate_left; (focus (intro w hSw; (try dsimp only at hSw); go_simp; (try with_reducible rfl))); (simp only [put_lit, List.set]))
          (refine take_at (i := 2) (oi := _) (v := ?_) rfl rfl (by kernel_rfl) (by kernel_rfl) (by kernel_rfl) (fun _ _ _ h => h) (Or.inl ⟨by rfl, ?_⟩) (by assumption) ?_; rotate_left; (focus (intro w hSw; (try dsimp only at hSw); go_simp; (try with_reducible rfl))); (simp only [put_lit, List.set]))
          (refine take_at (i := 3) (oi := _) (v := ?_) rfl rfl (by kernel_rfl) (by kernel_rfl) (by kernel_rfl) (fun _ _ _ h => h) (Or.inl ⟨by rfl, ?_⟩) (by assumption) ?_; rotate_left; (focus (intro w hSw; (try dsimp only at hSw); go_simp; (try with_reducible rfl))); (simp only [put_lit, List.set]))
          (refine take_at (i := 4) (oi := _) (v := ?_) rfl rfl (by kernel_rfl) (by kernel_rfl) (by kernel_rfl) (fun _ _ _ h => h) (Or.inl ⟨by rfl, ?_⟩) (by assumption) ?_; rotate_left; (focus (intro w hSw; (try dsimp only at hSw); go_simp; (try with_reducible rfl))); (simp only [put_lit, List.set]))
          (refine take_at (i := 5) (oi := _) (v := ?_) rfl rfl (by kernel_rfl) (by kernel_rfl) (by kernel_rfl) (fun _ _ _ h => h) (Or.inl ⟨by rfl, ?_⟩) (by assumption) ?_; rotate_left; (focus (intro w hSw; (try dsimp only at hSw); go_simp; (try with_reducible rfl))); (simp only [put_lit, List.set]))
          (refine take_at (i := 6) (oi := _) (v := ?_) rfl rfl (by kernel_rfl) (by kernel_rfl) (by kernel_rfl) (fun _ _ _ h => h) (Or.inl ⟨by rfl, ?_⟩) (by assumption) ?_; rotate_left; (focus (intro w hSw; (try dsimp only at hSw); go_simp; (try with_reducible rfl))); (simp only [put_lit, List.set]))
          (refine take_at (i := 7) (oi := _) (v := ?_) rfl rfl (by kernel_rfl) (by kernel_rfl) (by kernel_rfl) (fun _ _ _ h => h) (Or.inl ⟨by rfl, ?_⟩) (by assumption) ?_; rotate_left; (focus (intro w hSw; (try dsimp only at hSw); go_simp; (try with_reducible rfl))); (simp only [put_lit, List.set]))
          (refine take_at (i := 8) (oi := _) (v := ?_) rfl rfl (by kernel_rfl) (by kernel_rfl) (by kernel_rfl) (fun _ _ _ h => h) (Or.inl ⟨by rfl, ?_⟩) (by assumption) ?_; rotate_left; (focus (intro w hSw; (try dsimp only at hSw); go_simp; (try with_reducible rfl))); (simp only [put_lit, List.set]))
          refine wpAnyH_done (by kernel_rfl) (lastQ_list rfl ?_) _
          clear hHeld
          go_wp2
          go_roundw
          case rel =>
            have hrow2 : IRow (wr.setCell ⟨wo.heap.size, 0, none⟩ (.int .i64 (x + a))).drew wo.heap.size (mulX c (f.getD n 0) y) := by
              rw [← hhead.out, ← Hx.out, ← Ha.out]
              exact (Hrow.out.set_ 0 (x + a)).drew
            have hat := hrow2.at_ (cap := k + 1) (by rw [mulX_length, hyl.out]; omega)
            rw [mulX_length, hyl.out] at hat
            refine ⟨k + 1, some ⟨wo.heap.size, 0, none⟩, k + 1, by omega, ?_, rfl, ?_, ((Hbw.out.trans (Hbx.out.mono Hbw.out.size)).setCell (p := ⟨wo.heap.size, 0, none⟩) Hbw.out.size _).drew⟩
            · have := Hn.out
              congr 1
              omega
            · rw [show len - (k + 1) = n by have := Hn.out; omega, Hdr.out]
              exact hat
          case measure => simp [intOf]
    · have hjl2 : j = len := by omega
      subst hjl2
      rw [Nat.sub_self, List.drop_zero] at hout
      rw [show (j : Int) - 1 - (j : Int) = -1 by omega]
      clear h hbw
      go_wp2_with fail
      refine (rtrim_any _ _ _ _ _ hout (by omega)).mono ?_
      rintro e w2 ⟨rfl, rfl⟩
      have hfin := hout.take (k := plen (hsh c f)) (by have := plen_le (hsh c f); have := hout.length; omega)
      clear hout
      go_wp2
      go_ret
      exact ⟨_, _, rfl, hfin, Hbw.out⟩
end Go.Proofs.Ytfpliceenjbclaa
