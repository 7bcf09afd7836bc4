/- The walks of cylinderref02.Make, Of, Is, Mul, Add, Small. -/
import Derived.Test.YtgblfpkfapmlnaaBte
import Derived.Test.YtgblfpkfapmlnaaIntD
namespace Go.Proofs.Ytgblfpkfapmlnaa
open Go.RowKit

/-- a number of the reference -/
structure ZAt (w : World) (s : Int) (A : Option Addr) (l c : Nat) (z : Int) : Prop where
  sign : s = sg z
  bits : I64At w A l c (bts z.natAbs)
  typ : Typ w A l
abbrev zbox (s : Int) (A : Option Addr) (l c : Nat) : Obj := .cells #[.int .i64 s, .slice A l c] 45
theorem ZAt.below {w w' : World} {s : Int} {A : Option Addr} {l c : Nat} {z : Int} (h : ZAt w s A l c z) (hb : Below w.heap.size w w') : ZAt w' s A l c z := ⟨h.sign, h.bits.below hb, h.typ.below hb⟩
theorem ZAt.len {w : World} {s : Int} {A : Option Addr} {l c : Nat} {z : Int} (h : ZAt w s A l c z) : l = bln z.natAbs := by rw [← h.bits.length, bts_length]
theorem ZAt.zero (w : World) (A : Option Addr) (c : Nat) : ZAt w 0 A 0 c 0 := ⟨rfl, ⟨rfl, Nat.zero_le _, .inl rfl⟩, .inl rfl⟩
theorem ZAt.sgb {w : World} {s : Int} {A : Option Addr} {l c : Nat} {z : Int} (h : ZAt w s A l c z) : -1 ≤ s ∧ s ≤ 1 := by
  rw [h.sign]
  rcases sg_cases z with ⟨_, e⟩ | ⟨_, e⟩ | ⟨_, e⟩ <;> rw [e] <;> omega

/-- the bits stay when an empty result is filled -/
theorem bits_ret {w : World} {A : Option Addr} {l c n : Nat} (h : I64At w A l c (bts n)) {g : Nat} {A0 : Option Addr} {l0 c0 : Nat} (u v : Value) (h0 : w.cell? ⟨g, 0, none⟩ = some (.int .i64 0)) (h1 : w.cell? ⟨g, 1, none⟩ = some (.slice A0 l0 c0)) :
    I64At ((w.setCell ⟨g, 0, none⟩ u).setCell ⟨g, 1, none⟩ v) A l c (bts n) := by
  refine ⟨h.length, h.cap, ?_⟩
  rcases Nat.eq_zero_or_pos l with hl | hl
  · exact .inl hl
  · obtain ⟨b, off, hA, hlt, hc⟩ := h.at_ hl
    refine .inr ⟨b, off, hA, by simpa [World.setCell] using hlt, fun j hj => ?_⟩
    have hne1 : (⟨b, off + j, none⟩ : Addr) ≠ ⟨g, 1, none⟩ := by
      intro e
      have := hc j hj
      rw [e, h1] at this
      cases this
    have hne0 : (⟨b, off + j, none⟩ : Addr) ≠ ⟨g, 0, none⟩ := by
      intro e
      have e1 := Addr.mk.inj e
      have hj0 : off = 0 ∧ j = 0 := by have := e1.2.1; omega
      by_cases h2 : l = 1
      · have := hc j hj
        rw [e, h0, hj0.2] at this
        have hn : bln n = 1 := by have := h.length; rw [bts_length] at this; omega
        have hb : btn n 0 = 1 := by
          have := btn_top (n := n) (by intro h3; rw [h3] at hn; exact absurd hn (by decide))
          rw [hn] at this
          exact this
        rw [bts_get, hb] at this
        cases this
      · have := hc 1 (by omega)
        rw [hj0.1, e1.1] at this
        rw [show (0 + 1 : Nat) = 1 from rfl, h1] at this
        cases this
    rw [World.cell?_setCell_other _ _ _ _ (Ne.symm hne1), World.cell?_setCell_other _ _ _ _ (Ne.symm hne0)]
    exact hc j hj
theorem Typ.set_ {w : World} {A : Option Addr} {l : Nat} (h : Typ w A l) (g i : Nat) (u : Value) : Typ (w.setCell ⟨g, i, none⟩ u) A l := by
  rcases h with h | ⟨b, off, cs, hA, hk⟩
  · exact .inl h
  · by_cases hb : b = g
    · subst hb
      exact .inr ⟨b, off, _, hA, heap_setCell_same w b i cs 3 u hk⟩
    · exact .inr ⟨b, off, cs, hA, (heap_setCell_other w ⟨g, i, none⟩ b u hb).trans hk⟩
theorem ZAt.ret {w : World} {s : Int} {A : Option Addr} {l c : Nat} {z : Int} (h : ZAt w s A l c z) {g : Nat} {A0 : Option Addr} {l0 c0 : Nat} (u v : Value) (h0 : w.cell? ⟨g, 0, none⟩ = some (.int .i64 0)) (h1 : w.cell? ⟨g, 1, none⟩ = some (.slice A0 l0 c0)) :
    ZAt ((w.setCell ⟨g, 0, none⟩ u).setCell ⟨g, 1, none⟩ v) s A l c z := ⟨h.sign, bits_ret h.bits u v h0 h1, (h.typ.set_ _ _ _).set_ _ _ _⟩

theorem sg_sgn (neg : Bool) {n : Nat} (h : n ≠ 0) : sg (sgn neg n) = if neg then -1 else 1 := by
  cases neg
  · rw [sgn_false]; exact sg_pos (by omega)
  · rw [sgn_true]; exact sg_neg (by omega)

/-- what Make, Of, Add and the others return -/
def ZRet (w : World) (z : Int) (e : Ending) (w' : World) : Prop := ∃ s A l c, e = .returned (.agg #[.int .i64 s, .slice A l c]) ∧ ZAt w' s A l c z ∧ Below w.heap.size w w'

set_option maxRecDepth 100000 in
set_option maxHeartbeats 1000000 in
theorem zmake_any (neg : Bool) (A : Option Addr) (l c n : Nat) (w : World) (h : I64At w A l c (bts n)) (ht : Typ w A l) (hm : l ≤ 1000000) :
    Calls Try.prog 71 #[.bool neg, .slice A l c] w (ZRet w (sgn neg n)) := by
  have hpl : plen (bts n) = l := by rw [bts_plen, ← bts_length, h.length]
  have hl := h.length
  rw [bts_length] at hl
  have H := Lib.hid (h.below ((Below.refl _ _).alloc (Nat.le_refl _) (zbox 0 none 0 0)))
  have H0 := Lib.hid h
  have Ht := Lib.hid ht
  clear h ht
  by_cases hn : n = 0
  · subst hn
    have hl0 : l = 0 := by rw [← hl]; rfl
    subst hl0
    have hz : sgn neg 0 = 0 := by cases neg <;> rfl
    have Hz := Lib.hid hz
    clear hz
    go_enter Try.func71, Try.ntmps71
    go_wp2_with fail
    refine (btrim_any _ _ _ _ _ H.out (by omega)).mono ?_
    rintro e w2 ⟨rfl, rfl⟩
    rw [hpl]
    go_wp2
    refine bodyPost_ret (v := .agg #[.int .i64 0, .slice none 0 0]) (by simp [results, Try.results71, go_sem]) rfl ⟨_, _, _, _, rfl, by rw [Hz.out]; exact ZAt.zero _ _ _, (by (repeat (first | exact Below.refl _ _ | refine Below.drew ?_ | refine Below.alloc ?_ (by first | (simp; done) | (simp; omega) | omega) _ | refine Below.setCell ?_ (by first | (simp; done) | (simp; omega) | omega) _)))⟩
  · have hb : 0 < l := by rw [← hl]; unfold bln; rw [if_neg hn]; omega
    have t1 : ((l : Int) == 0) = false := by rw [beq_eq_false_iff_ne]; omega
    have Hs := Lib.hid (sg_sgn neg hn)
    have Hn := Lib.hid hn
    clear hl hb hn
    cases neg
    · go_enter Try.func71, Try.ntmps71
      go_wp2_with fail
      refine (btrim_any _ _ _ _ _ H.out (by omega)).mono ?_
      rintro e w2 ⟨rfl, rfl⟩
      rw [hpl]
      go_wp2
      have hz : ZAt w 1 A l c (sgn false n) := ⟨by rw [Hs.out]; rfl, by rw [sgn_natAbs]; exact H0.out, Ht.out⟩
      refine bodyPost_ret (v := .agg #[.int .i64 1, .slice A l c]) (by simp [results, Try.results71, go_sem]) rfl ⟨_, _, _, _, rfl, hz.below (by (repeat (first | exact Below.refl _ _ | refine Below.drew ?_ | refine Below.alloc ?_ (by first | (simp; done) | (simp; omega) | omega) _ | refine Below.setCell ?_ (by first | (simp; done) | (simp; omega) | omega) _))), (by (repeat (first | exact Below.refl _ _ | refine Below.drew ?_ | refine Below.alloc ?_ (by first | (simp; done) | (simp; omega) | omega) _ | refine Below.setCell ?_ (by first | (simp; done) | (simp; omega) | omega) _)))⟩
    · go_enter Try.func71, Try.ntmps71
      go_wp2_with fail
      refine (btrim_any _ _ _ _ _ H.out (by omega)).mono ?_
      rintro e w2 ⟨rfl, rfl⟩
      rw [hpl]
      go_wp2
      have hz : ZAt w (-1) A l c (sgn true n) := ⟨by rw [Hs.out]; rfl, by rw [sgn_natAbs]; exact H0.out, Ht.out⟩
      refine bodyPost_ret (v := .agg #[.int .i64 (-1), .slice A l c]) (by simp [results, Try.results71, go_sem]) rfl ⟨_, _, _, _, rfl, hz.below (by (repeat (first | exact Below.refl _ _ | refine Below.drew ?_ | refine Below.alloc ?_ (by first | (simp; done) | (simp; omega) | omega) _ | refine Below.setCell ?_ (by first | (simp; done) | (simp; omega) | omega) _))), (by (repeat (first | exact Below.refl _ _ | refine Below.drew ?_ | refine Below.alloc ?_ (by first | (simp; done) | (simp; omega) | omega) _ | refine Below.setCell ?_ (by first | (simp; done) | (simp; omega) | omega) _)))⟩

set_option maxRecDepth 100000 in
set_option maxHeartbeats 1000000 in
theorem zof_any (neg : Bool) (A : Option Addr) (l c : Nat) (z : Int) (w : World) (h : IntAt w neg A l c z) (hm : l ≤ 30000) :
    Calls Try.prog 40 #[.bool neg, .slice A l c] w (ZRet w z) := by
  obtain ⟨ds, hd, hv⟩ := h.nat.digits
  have Hd := Lib.hid hd
  have Hv := Lib.hid hv
  have Hs := Lib.hid h.sign
  have hlen : bln (val ds) ≤ 32 * l := bln_le (by
    have := val_lt hd.wd
    rw [hd.length, BBp, ← Nat.pow_mul] at this
    exact this)
  rw [hv] at hlen
  clear h hd hv
  have hb0 : Below w.heap.size w (w.alloc (zbox 0 none 0 0)) := (Below.refl _ _).alloc (Nat.le_refl _) _
  go_enter Try.func40, Try.ntmps40
  go_wp2_with fail
  refine (bof_any _ _ _ ds _ (Hd.out.below hb0) (by omega)).mono ?_
  rintro e w1 ⟨A1, l1, c1, rfl, h1, ht1, hb1⟩
  rw [Hv.out] at h1
  have hl1 : l1 ≤ 1000000 := by have := h1.length; rw [bts_length] at this; omega
  have H1 := Lib.hid h1
  have Ht1 := Lib.hid ht1
  have Hb1 := Lib.hid hb1
  have Hb0 := Lib.hid hb0
  clear h1 ht1 hb1 hb0
  go_wp2_with fail
  refine (zmake_any neg _ _ _ z.natAbs _ H1.out Ht1.out (by omega)).mono ?_
  rintro e w2 ⟨s2, A2, l2, c2, rfl, h2, hb2⟩
  rw [← Hs.out] at h2
  have hb3 := Hb1.out.trans (hb2.mono Hb1.out.size)
  obtain ⟨hc, hf⟩ := bcell hb3
  have hsz := hb3.size
  simp only [World.size_alloc] at hsz
  have H2 := Lib.hid h2
  have Hb3 := Lib.hid hb3
  have Hc := Lib.hid hc
  clear h2 hb2 hb3
  go_wp2
  refine bodyPost_ret (v := .agg #[.int .i64 s2, .slice A2 l2 c2]) (by simp [results, Try.results40, go_sem, hc]) rfl ⟨_, _, _, _, rfl, H2.out.ret _ _ (A0 := none) (l0 := 0) (c0 := 0) ?_ ?_, ?_⟩
  · rw [Hc.out _ _ (by simp)]; go_simp
  · rw [Hc.out _ _ (by simp)]; go_simp
  · exact ((Hb0.out.trans (Hb3.out.mono Hb0.out.size)).setCell (Nat.le_refl _) _).setCell (Nat.le_refl _) _

set_option maxRecDepth 100000 in
set_option maxHeartbeats 1000000 in
theorem zis_any (neg : Bool) (A : Option Addr) (la ca : Nat) (z : Int) (s : Int) (B : Option Addr) (lb cb : Nat) (w : World) (h : IntN w neg A la ca z) (hz : ZAt w s B lb cb z) (hm : lb ≤ 1000000) :
    Calls Try.prog 17 #[.bool neg, .slice A la ca, .agg #[.int .i64 s, .slice B lb cb]] w fun e w' => e = .returned (.bool true) ∧ Below w.heap.size w w' := by
  have hb0 : Below w.heap.size w (w.alloc (zbox s B lb cb)) := (Below.refl _ _).alloc (Nat.le_refl _) _
  have HA := Lib.hid (h.nat.below hb0)
  have HB := Lib.hid (hz.bits.below hb0)
  have hsn : neg = decide (s < 0) := by
    rw [h.sign, hz.sign]
    rcases sg_cases z with ⟨h1, e⟩ | ⟨h1, e⟩ | ⟨h1, e⟩ <;> rw [e] <;> simp <;> omega
  have hg : (neg == decide (s < 0)) = true := by rw [hsn]; simp
  have Hb0 := Lib.hid hb0
  clear h hz hb0 hsn
  go_enter Try.func17, Try.ntmps17
  go_wp2_with fail
  refine (bis_any _ _ _ z.natAbs _ _ _ _ HA.out HB.out (by omega)).mono ?_
  rintro e w1 ⟨rfl, hb1⟩
  have Hb1 := Lib.hid hb1
  clear hb1
  go_wp2
  go_ret
  exact ⟨rfl, Hb0.out.trans (Hb1.out.mono Hb0.out.size)⟩
end Go.Proofs.Ytgblfpkfapmlnaa
