/- The walk of cylinderref02.Small. -/
import Derived.Test.YtgblfpkfapmlnaaGreatBte
import Derived.Test.YtgblfpkfapmlnaaGreatIntD
/- The walks of cylinderref02.Make, Of, Is, Mul, Add, Small. -/
namespace Go.Proofs.YtgblfpkfapmlnaaGreat
open Go.RowKit

/-- a number of the reference -/
structure ZAt (w : World) (s : Int) (A : Option Addr) (l c : Nat) (z : Int) : Prop where
  sign : s = sg z
  bits : I64At w A l c (bts z.natAbs)
  typ : Typ w A l
abbrev zbox (s : Int) (A : Option Addr) (l c : Nat) : Obj := .cells #[.int .i64 s, .slice A l c] 50
theorem ZAt.below {w w' : World} {s : Int} {A : Option Addr} {l c : Nat} {z : Int} (h : ZAt w s A l c z) (hb : Below w.heap.size w w') : ZAt w' s A l c z := ⟨h.sign, h.bits.below hb, h.typ.below hb⟩
theorem ZAt.len {w : World} {s : Int} {A : Option Addr} {l c : Nat} {z : Int} (h : ZAt w s A l c z) : l = bln z.natAbs := by rw [← h.bits.length, bts_length]
theorem ZAt.zero (w : World) (A : Option Addr) (c : Nat) : ZAt w 0 A 0 c 0 := ⟨rfl, ⟨rfl, Nat.zero_le _, .inl rfl⟩, .inl rfl⟩
theorem ZAt.sgb {w : World} {s : Int} {A : Option Addr} {l c : Nat} {z : Int} (h : ZAt w s A l c z) : -1 ≤ s ∧ s ≤ 1 := by
  rw [h.sign]
  rcases sg_cases z with ⟨_, e⟩ | ⟨_, e⟩ | ⟨_, e⟩ <;> rw [e] <;> omega

/-- the bits stay when an empty result is filled -/
theorem bits_ret {w : World} {A : Option Addr} {l c n : Nat} (h : I64At w A l c (bts n)) {g : Nat} {A0 : Option Addr} {l0 c0 : Nat} (u v : Value) (h0 : w.cell? ⟨g, 0, none⟩ = some (.int .i64 0)) (h1 : w.cell? ⟨g, 1, none⟩ = some (.slice A0 l0 c0)) :
    I64At ((w.setCell ⟨g, 0, none⟩ u).setCell ⟨g, 1, none⟩ v) A l c (bts n) := by
  refine ⟨h.length, h.cap, ?_⟩
  rcases Nat.eq_zero_or_pos l with hl | hl
  · exact .inl hl
  · obtain ⟨b, off, hA, hlt, hc⟩ := h.at_ hl
    refine .inr ⟨b, off, hA, by simpa [World.setCell] using hlt, fun j hj => ?_⟩
    have hne1 : (⟨b, off + j, none⟩ : Addr) ≠ ⟨g, 1, none⟩ := by
      intro e
      have := hc j hj
      rw [e, h1] at this
      cases this
    have hne0 : (⟨b, off + j, none⟩ : Addr) ≠ ⟨g, 0, none⟩ := by
      intro e
      have e1 := Addr.mk.inj e
      have hj0 : off = 0 ∧ j = 0 := by have := e1.2.1; omega
      by_cases h2 : l = 1
      · have := hc j hj
        rw [e, h0, hj0.2] at this
        have hn : bln n = 1 := by have := h.length; rw [bts_length] at this; omega
        have hb : btn n 0 = 1 := by
          have := btn_top (n := n) (by intro h3; rw [h3] at hn; exact absurd hn (by decide))
          rw [hn] at this
          exact this
        rw [bts_get, hb] at this
        cases this
      · have := hc 1 (by omega)
        rw [hj0.1, e1.1] at this
        rw [show (0 + 1 : Nat) = 1 from rfl, h1] at this
        cases this
    rw [World.cell?_setCell_other _ _ _ _ (Ne.symm hne1), World.cell?_setCell_other _ _ _ _ (Ne.symm hne0)]
    exact hc j hj
theorem Typ.set_ {w : World} {A : Option Addr} {l : Nat} (h : Typ w A l) (g i : Nat) (u : Value) : Typ (w.setCell ⟨g, i, none⟩ u) A l := by
  rcases h with h | ⟨b, off, cs, hA, hk⟩
  · exact .inl h
  · by_cases hb : b = g
    · subst hb
      exact .inr ⟨b, off, _, hA, heap_setCell_same w b i cs 3 u hk⟩
    · exact .inr ⟨b, off, cs, hA, (heap_setCell_other w ⟨g, i, none⟩ b u hb).trans hk⟩
theorem ZAt.ret {w : World} {s : Int} {A : Option Addr} {l c : Nat} {z : Int} (h : ZAt w s A l c z) {g : Nat} {A0 : Option Addr} {l0 c0 : Nat} (u v : Value) (h0 : w.cell? ⟨g, 0, none⟩ = some (.int .i64 0)) (h1 : w.cell? ⟨g, 1, none⟩ = some (.slice A0 l0 c0)) :
    ZAt ((w.setCell ⟨g, 0, none⟩ u).setCell ⟨g, 1, none⟩ v) s A l c z := ⟨h.sign, bits_ret h.bits u v h0 h1, (h.typ.set_ _ _ _).set_ _ _ _⟩

theorem sg_sgn (neg : Bool) {n : Nat} (h : n ≠ 0) : sg (sgn neg n) = if neg then -1 else 1 := by
  cases neg
  · rw [sgn_false]; exact sg_pos (by omega)
  · rw [sgn_true]; exact sg_neg (by omega)

/-- what Make, Of, Add and the others return -/
def ZRet (w : World) (z : Int) (e : Ending) (w' : World) : Prop := ∃ s A l c, e = .returned (.agg #[.int .i64 s, .slice A l c]) ∧ ZAt w' s A l c z ∧ Below w.heap.size w w'

set_option maxRecDepth 100000 in
set_option maxHeartbeats 1000000 in
theorem zmake_any (neg : Bool) (A : Option Addr) (l c n : Nat) (w : World) (h : I64At w A l c (bts n)) (ht : Typ w A l) (hm : l ≤ 1000000) :
    Calls Tryz.prog 63 #[.bool neg, .slice A l c] w (ZRet w (sgn neg n)) := by
  have hpl : plen (bts n) = l := by rw [bts_plen, ← bts_length, h.length]
  have hl := h.length
  rw [bts_length] at hl
  have H := Lib.hid (h.below ((Below.refl _ _).alloc (Nat.le_refl _) (zbox 0 none 0 0)))
  have H0 := Lib.hid h
  have Ht := Lib.hid ht
  clear h ht
  by_cases hn : n = 0
  · subst hn
    have hl0 : l = 0 := by rw [← hl]; rfl
    subst hl0
    have hz : sgn neg 0 = 0 := by cases neg <;> rfl
    have Hz := Lib.hid hz
    clear hz
    go_enter Tryz.func63, Tryz.ntmps63
    go_wp2_with fail
    refine (btrim_any _ _ _ _ _ H.out (by omega)).mono ?_
    rintro e w2 ⟨rfl, rfl⟩
    rw [hpl]
    go_wp2
    refine bodyPost_ret (v := .agg #[.int .i64 0, .slice none 0 0]) (by simp [results, Tryz.results63, go_sem]) rfl ⟨_, _, _, _, rfl, by rw [Hz.out]; exact ZAt.zero _ _ _, (by (repeat (first | exact Below.refl _ _ | refine Below.drew ?_ | refine Below.alloc ?_ (by first | (simp; done) | (simp; omega) | omega) _ | refine Below.setCell ?_ (by first | (simp; done) | (simp; omega) | omega) _)))⟩
  · have hb : 0 < l := by rw [← hl]; unfold bln; rw [if_neg hn]; omega
    have t1 : ((l : Int) == 0) = false := by rw [beq_eq_false_iff_ne]; omega
    have Hs := Lib.hid (sg_sgn neg hn)
    have Hn := Lib.hid hn
    clear hl hb hn
    cases neg
    · go_enter Tryz.func63, Tryz.ntmps63
      go_wp2_with fail
      refine (btrim_any _ _ _ _ _ H.out (by omega)).mono ?_
      rintro e w2 ⟨rfl, rfl⟩
      rw [hpl]
      go_wp2
      have hz : ZAt w 1 A l c (sgn false n) := ⟨by rw [Hs.out]; rfl, by rw [sgn_natAbs]; exact H0.out, Ht.out⟩
      refine bodyPost_ret (v := .agg #[.int .i64 1, .slice A l c]) (by simp [results, Tryz.results63, go_sem]) rfl ⟨_, _, _, _, rfl, hz.below (by (repeat (first | exact Below.refl _ _ | refine Below.drew ?_ | refine Below.alloc ?_ (by first | (simp; done) | (simp; omega) | omega) _ | refine Below.setCell ?_ (by first | (simp; done) | (simp; omega) | omega) _))), (by (repeat (first | exact Below.refl _ _ | refine Below.drew ?_ | refine Below.alloc ?_ (by first | (simp; done) | (simp; omega) | omega) _ | refine Below.setCell ?_ (by first | (simp; done) | (simp; omega) | omega) _)))⟩
    · go_enter Tryz.func63, Tryz.ntmps63
      go_wp2_with fail
      refine (btrim_any _ _ _ _ _ H.out (by omega)).mono ?_
      rintro e w2 ⟨rfl, rfl⟩
      rw [hpl]
      go_wp2
      have hz : ZAt w (-1) A l c (sgn true n) := ⟨by rw [Hs.out]; rfl, by rw [sgn_natAbs]; exact H0.out, Ht.out⟩
      refine bodyPost_ret (v := .agg #[.int .i64 (-1), .slice A l c]) (by simp [results, Tryz.results63, go_sem]) rfl ⟨_, _, _, _, rfl, hz.below (by (repeat (first | exact Below.refl _ _ | refine Below.drew ?_ | refine Below.alloc ?_ (by first | (simp; done) | (simp; omega) | omega) _ | refine Below.setCell ?_ (by first | (simp; done) | (simp; omega) | omega) _))), (by (repeat (first | exact Below.refl _ _ | refine Below.drew ?_ | refine Below.alloc ?_ (by first | (simp; done) | (simp; omega) | omega) _ | refine Below.setCell ?_ (by first | (simp; done) | (simp; omega) | omega) _)))⟩

set_option maxRecDepth 100000 in
set_option maxHeartbeats 1000000 in
theorem zof_any (neg : Bool) (A : Option Addr) (l c : Nat) (z : Int) (w : World) (h : IntAt w neg A l c z) (hm : l ≤ 30000) :
    Calls Tryz.prog 30 #[.bool neg, .slice A l c] w (ZRet w z) := by
  obtain ⟨ds, hd, hv⟩ := h.nat.digits
  have Hd := Lib.hid hd
  have Hv := Lib.hid hv
  have Hs := Lib.hid h.sign
  have hlen : bln (val ds) ≤ 32 * l := bln_le (by
    have := val_lt hd.wd
    rw [hd.length, BBp, ← Nat.pow_mul] at this
    exact this)
  rw [hv] at hlen
  clear h hd hv
  have hb0 : Below w.heap.size w (w.alloc (zbox 0 none 0 0)) := (Below.refl _ _).alloc (Nat.le_refl _) _
  go_enter Tryz.func30, Tryz.ntmps30
  go_wp2_with fail
  refine (bof_any _ _ _ ds _ (Hd.out.below hb0) (by omega)).mono ?_
  rintro e w1 ⟨A1, l1, c1, rfl, h1, ht1, hb1⟩
  rw [Hv.out] at h1
  have hl1 : l1 ≤ 1000000 := by have := h1.length; rw [bts_length] at this; omega
  have H1 := Lib.hid h1
  have Ht1 := Lib.hid ht1
  have Hb1 := Lib.hid hb1
  have Hb0 := Lib.hid hb0
  clear h1 ht1 hb1 hb0
  go_wp2_with fail
  refine (zmake_any neg _ _ _ z.natAbs _ H1.out Ht1.out (by omega)).mono ?_
  rintro e w2 ⟨s2, A2, l2, c2, rfl, h2, hb2⟩
  rw [← Hs.out] at h2
  have hb3 := Hb1.out.trans (hb2.mono Hb1.out.size)
  obtain ⟨hc, hf⟩ := bcell hb3
  have hsz := hb3.size
  simp only [World.size_alloc] at hsz
  have H2 := Lib.hid h2
  have Hb3 := Lib.hid hb3
  have Hc := Lib.hid hc
  clear h2 hb2 hb3
  go_wp2
  refine bodyPost_ret (v := .agg #[.int .i64 s2, .slice A2 l2 c2]) (by simp [results, Tryz.results30, go_sem, hc]) rfl ⟨_, _, _, _, rfl, H2.out.ret _ _ (A0 := none) (l0 := 0) (c0 := 0) ?_ ?_, ?_⟩
  · rw [Hc.out _ _ (by simp)]; go_simp
  · rw [Hc.out _ _ (by simp)]; go_simp
  · exact ((Hb0.out.trans (Hb3.out.mono Hb0.out.size)).setCell (Nat.le_refl _) _).setCell (Nat.le_refl _) _

set_option maxRecDepth 100000 in
set_option maxHeartbeats 1000000 in
theorem zis_any (neg : Bool) (A : Option Addr) (la ca : Nat) (z : Int) (s : Int) (B : Option Addr) (lb cb : Nat) (w : World) (h : IntN w neg A la ca z) (hz : ZAt w s B lb cb z) (hm : lb ≤ 1000000) :
    Calls Tryz.prog 39 #[.bool neg, .slice A la ca, .agg #[.int .i64 s, .slice B lb cb]] w fun e w' => e = .returned (.bool true) ∧ Below w.heap.size w w' := by
  have hb0 : Below w.heap.size w (w.alloc (zbox s B lb cb)) := (Below.refl _ _).alloc (Nat.le_refl _) _
  have HA := Lib.hid (h.nat.below hb0)
  have HB := Lib.hid (hz.bits.below hb0)
  have hsn : neg = decide (s < 0) := by
    rw [h.sign, hz.sign]
    rcases sg_cases z with ⟨h1, e⟩ | ⟨h1, e⟩ | ⟨h1, e⟩ <;> rw [e] <;> simp <;> omega
  have hg : (neg == decide (s < 0)) = true := by rw [hsn]; simp
  have Hb0 := Lib.hid hb0
  clear h hz hb0 hsn
  go_enter Tryz.func39, Tryz.ntmps39
  go_wp2_with fail
  refine (bis_any _ _ _ z.natAbs _ _ _ _ HA.out HB.out (by omega)).mono ?_
  rintro e w1 ⟨rfl, hb1⟩
  have Hb1 := Lib.hid hb1
  clear hb1
  go_wp2
  go_ret
  exact ⟨rfl, Hb0.out.trans (Hb1.out.mono Hb0.out.size)⟩
end Go.Proofs.YtgblfpkfapmlnaaGreat

/- The walks of cylinderref02.Mul, Add, Small. -/
namespace Go.Proofs.YtgblfpkfapmlnaaGreat
open Go.RowKit

theorem zmul_sg (a b : Int) : sgn (decide (sg a * sg b < 0)) (a.natAbs * b.natAbs) = a * b := by
  rw [← Int.natAbs_mul]
  rcases sg_cases a with ⟨h1, e1⟩ | ⟨h1, e1⟩ | ⟨h1, e1⟩ <;> rcases sg_cases b with ⟨h2, e2⟩ | ⟨h2, e2⟩ | ⟨h2, e2⟩ <;> rw [e1, e2]
  · have := Int.mul_pos_of_neg_of_neg h1 h2
    simp only [show decide ((-1 : Int) * -1 < 0) = false from rfl, sgn_false]; omega
  · subst h2; simp [sgn]
  · have := Int.mul_neg_of_neg_of_pos h1 h2
    simp only [show decide ((-1 : Int) * 1 < 0) = true from rfl, sgn_true]; omega
  · subst h1; simp [sgn]
  · subst h1; simp [sgn]
  · subst h1; simp [sgn]
  · have := Int.mul_neg_of_pos_of_neg h1 h2
    simp only [show decide ((1 : Int) * -1 < 0) = true from rfl, sgn_true]; omega
  · subst h2; simp [sgn]
  · have := Int.mul_pos h1 h2
    simp only [show decide ((1 : Int) * 1 < 0) = false from rfl, sgn_false]; omega
theorem zadd_same {a b : Int} (h : 0 ≤ sg a * sg b) : sgn (decide (sg a + sg b < 0)) (a.natAbs + b.natAbs) = a + b := by
  rcases sg_cases a with ⟨h1, e1⟩ | ⟨h1, e1⟩ | ⟨h1, e1⟩ <;> rcases sg_cases b with ⟨h2, e2⟩ | ⟨h2, e2⟩ | ⟨h2, e2⟩ <;> rw [e1, e2] at h ⊢ <;> first
    | (exact absurd h (by decide))
    | (simp [sgn]; omega)
theorem zadd_ge {a b : Int} (h : sg a * sg b < 0) (hl : b.natAbs ≤ a.natAbs) : sgn (decide (sg a < 0)) (a.natAbs - b.natAbs) = a + b := by
  rcases sg_cases a with ⟨h1, e1⟩ | ⟨h1, e1⟩ | ⟨h1, e1⟩ <;> rcases sg_cases b with ⟨h2, e2⟩ | ⟨h2, e2⟩ | ⟨h2, e2⟩ <;> rw [e1, e2] at h <;> rw [e1] <;> first
    | (exact absurd h (by decide))
    | (simp [sgn]; omega)
theorem zadd_lt {a b : Int} (h : sg a * sg b < 0) (hl : a.natAbs < b.natAbs) : sgn (decide (sg b < 0)) (b.natAbs - a.natAbs) = a + b := by
  rw [zadd_ge (a := b) (b := a) (by rw [Int.mul_comm]; exact h) (by omega), Int.add_comm]
theorem sg_mul_bd (a b : Int) : -1 ≤ sg a * sg b ∧ sg a * sg b ≤ 1 ∧ -2 ≤ sg a + sg b ∧ sg a + sg b ≤ 2 ∧ -1 ≤ sg a ∧ sg a ≤ 1 ∧ -1 ≤ sg b ∧ sg b ≤ 1 := by
  rcases sg_cases a with ⟨_, e1⟩ | ⟨_, e1⟩ | ⟨_, e1⟩ <;> rcases sg_cases b with ⟨_, e2⟩ | ⟨_, e2⟩ | ⟨_, e2⟩ <;> rw [e1, e2] <;> decide

/-- bits of a product and a sum -/
theorem bln_mul (a b : Nat) : bln (a * b) ≤ bln a + bln b := bln_le (by
  rw [Nat.pow_add]
  exact Nat.mul_lt_mul'' (bln_lt a) (bln_lt b))
theorem bln_add (a b : Nat) : bln (a + b) ≤ max (bln a) (bln b) + 1 := bln_le (by
  have h1 : a < 2 ^ max (bln a) (bln b) := Nat.lt_of_lt_of_le (bln_lt a) (Nat.pow_le_pow_right (by decide) (by omega))
  have h2 : b < 2 ^ max (bln a) (bln b) := Nat.lt_of_lt_of_le (bln_lt b) (Nat.pow_le_pow_right (by decide) (by omega))
  rw [Nat.pow_succ]; omega)
theorem bln_mono {a b : Nat} (h : a ≤ b) : bln a ≤ bln b := bln_le (Nat.lt_of_le_of_lt h (bln_lt b))

set_option maxRecDepth 100000 in
set_option maxHeartbeats 2000000 in
theorem zmul_any (p : Int) (A : Option Addr) (la ca : Nat) (a : Int) (q : Int) (B : Option Addr) (lb cb : Nat) (b : Int) (w : World) (ha : ZAt w p A la ca a) (hb : ZAt w q B lb cb b) (hma : la ≤ 400000) (hmb : lb ≤ 400000) :
    Calls Tryz.prog 37 #[.agg #[.int .i64 p, .slice A la ca], .agg #[.int .i64 q, .slice B lb cb]] w (ZRet w (a * b)) := by
  have hb0 : Below w.heap.size w (((w.alloc (zbox p A la ca)).alloc (zbox q B lb cb)).alloc (zbox 0 none 0 0)) := below_three w _ _ _ (Nat.le_refl _)
  have hA0 := ha.bits.below hb0
  have hB0 := hb.bits.below hb0
  have hsg := sg_mul_bd a b
  have hms := zmul_sg a b
  have hla := ha.len
  have hlb := hb.len
  rw [← ha.sign, ← hb.sign] at hsg hms
  obtain ⟨m, hm⟩ : ∃ m, m = p * q := ⟨_, rfl⟩
  rw [← hm] at hsg hms
  have i1 : p * q = m := hm.symm
  have i2 : IntKind.i64.wrap m = m := IntWalk.i64_in _ (by omega)
  have Hms := Lib.hid hms
  have hmul := bln_mul a.natAbs b.natAbs
  have Hmul := Lib.hid (show bln (a.natAbs * b.natAbs) ≤ 1000000 by omega)
  have Hb0 := Lib.hid hb0
  clear ha hb hb0 hms hm hsg hmul hla hlb
  go_enter Tryz.func37, Tryz.ntmps37
  go_wp2_with fail
  have hA1 := hA0.below (Below.refl _ _).drew
  have hB1 := hB0.below (Below.refl _ _).drew
  clear hA0 hB0
  go_region_held3 (fun w' => w'.cell? ⟨w.heap.size, 0, none⟩ = some (.int .i64 p) ∧ w'.cell? ⟨w.heap.size, 1, none⟩ = some (.slice A la ca) ∧ w'.cell? ⟨w.heap.size + 1, 0, none⟩ = some (.int .i64 q) ∧ w'.cell? ⟨w.heap.size + 1, 1, none⟩ = some (.slice B lb cb)) (refine ⟨?_, ?_, ?_, ?_⟩ <;> go_simp) (first
    | (go_at_call 72; go_must (refine (bmul_any _ _ _ a.natAbs _ _ _ b.natAbs _ hA1 hB1 hma hmb).mono ?_; rintro e w1 ⟨A1, l1, c1, rfl, h1, ht1, hb1⟩; obtain ⟨hc, hf⟩ := bcell hb1; have hsz := hb1.size; simp only [World.size_alloc, World.size_drew] at hsz))
    | (go_at_call 63; go_must (refine (zmake_any _ _ _ _ _ _ h1 ht1 (by rw [← h1.length, bts_length]; exact Hmul.out)).mono ?_; rintro e w2 ⟨s2, A2, l2, c2, rfl, h2, hb2⟩; clear hc hf; have hb3 := hb1.trans (hb2.mono hb1.size); obtain ⟨hc, hf⟩ := bcell hb3; have hsz2 := hb2.size)))
  have H2 := Lib.hid h2
  have Hb3 := Lib.hid hb3
  have Hc := Lib.hid hc
  rw [Hms.out] at H2
  clear h2 hb3 hb1 hb2 h1 hA1 hB1
  go_wp2
  refine bodyPost_ret (v := .agg #[.int .i64 s2, .slice A2 l2 c2]) (by simp [results, Tryz.results37, go_sem, hc]) rfl ⟨_, _, _, _, rfl, H2.out.ret _ _ (A0 := none) (l0 := 0) (c0 := 0) ?_ ?_, ?_⟩
  · rw [Hc.out _ _ (by simp)]; go_simp
  · rw [Hc.out _ _ (by simp)]; go_simp
  · exact ((Hb0.out.trans (((Below.refl _ _).drew.trans Hb3.out).mono Hb0.out.size)).setCell (by simp; omega) _).setCell (by simp; omega) _

set_option maxRecDepth 100000 in
set_option maxHeartbeats 4000000 in
theorem zadd_any (p : Int) (A : Option Addr) (la ca : Nat) (a : Int) (q : Int) (B : Option Addr) (lb cb : Nat) (b : Int) (w : World) (ha : ZAt w p A la ca a) (hb : ZAt w q B lb cb b) (hma : la ≤ 900000) (hmb : lb ≤ 900000) :
    Calls Tryz.prog 83 #[.agg #[.int .i64 p, .slice A la ca], .agg #[.int .i64 q, .slice B lb cb]] w (ZRet w (a + b)) := by
  have hb0 : Below w.heap.size w (((w.alloc (zbox p A la ca)).alloc (zbox q B lb cb)).alloc (zbox 0 none 0 0)) := below_three w _ _ _ (Nat.le_refl _)
  have hA0 := ha.bits.below hb0
  have hB0 := hb.bits.below hb0
  have hsg := sg_mul_bd a b
  have hms := zadd_same (a := a) (b := b)
  have hge := zadd_ge (a := a) (b := b)
  have hlt := zadd_lt (a := a) (b := b)
  have hla := ha.len
  have hlb := hb.len
  rw [← ha.sign, ← hb.sign] at hsg hms
  rw [← ha.sign, ← hb.sign] at hge hlt
  obtain ⟨m, hm⟩ : ∃ m, m = p * q := ⟨_, rfl⟩
  obtain ⟨t, ht⟩ : ∃ t, t = p + q := ⟨_, rfl⟩
  rw [← hm] at hsg hms hge hlt
  rw [← ht] at hsg hms
  have i1 : p * q = m := hm.symm
  have i2 : IntKind.i64.wrap m = m := IntWalk.i64_in _ (by omega)
  have i3 : p + q = t := ht.symm
  have i4 : IntKind.i64.wrap t = t := IntWalk.i64_in _ (by omega)
  have hadd := bln_add a.natAbs b.natAbs
  have Hadd := Lib.hid (show bln (a.natAbs + b.natAbs) ≤ 1000000 by omega)
  have Hs1 := Lib.hid (show bln (a.natAbs - b.natAbs) ≤ 1000000 by have := bln_mono (Nat.sub_le a.natAbs b.natAbs); omega)
  have Hs2 := Lib.hid (show bln (b.natAbs - a.natAbs) ≤ 1000000 by have := bln_mono (Nat.sub_le b.natAbs a.natAbs); omega)
  have Hb0 := Lib.hid hb0
  clear ha hb hb0 hm ht hsg hadd hla hlb
  by_cases hm0 : 0 ≤ m
  · have Hms := Lib.hid (hms hm0)
    clear hms hge hlt
    go_enter Tryz.func83, Tryz.ntmps83
    go_wp2_with fail
    have hA1 := hA0.below (Below.refl _ _).drew
    have hB1 := hB0.below (Below.refl _ _).drew
    clear hA0 hB0
    go_region_held3 (fun w' => w'.cell? ⟨w.heap.size, 0, none⟩ = some (.int .i64 p) ∧ w'.cell? ⟨w.heap.size, 1, none⟩ = some (.slice A la ca) ∧ w'.cell? ⟨w.heap.size + 1, 0, none⟩ = some (.int .i64 q) ∧ w'.cell? ⟨w.heap.size + 1, 1, none⟩ = some (.slice B lb cb)) (refine ⟨?_, ?_, ?_, ?_⟩ <;> go_simp) (first
      | (go_at_call 105; go_must (refine (badd_any _ _ _ a.natAbs _ _ _ b.natAbs _ hA1 hB1 (by omega) (by omega)).mono ?_; rintro e w1 ⟨A1, l1, c1, rfl, h1, ht1, hb1⟩; obtain ⟨hc, hf⟩ := bcell hb1; have hsz := hb1.size; simp only [World.size_alloc, World.size_drew] at hsz))
      | (go_at_call 63; go_must (refine (zmake_any _ _ _ _ _ _ h1 ht1 (by rw [← h1.length, bts_length]; exact Hadd.out)).mono ?_; rintro e w2 ⟨s2, A2, l2, c2, rfl, h2, hb2⟩; clear hc hf; have hb3 := hb1.trans (hb2.mono hb1.size); obtain ⟨hc, hf⟩ := bcell hb3; have hsz2 := hb2.size)))
    have H2 := Lib.hid h2
    have Hb3 := Lib.hid hb3
    have Hc := Lib.hid hc
    rw [Hms.out] at H2
    clear h2 hb3 hb1 hb2 h1 hA1 hB1
    go_wp2
    refine bodyPost_ret (v := .agg #[.int .i64 s2, .slice A2 l2 c2]) (by simp [results, Tryz.results83, go_sem, hc]) rfl ⟨_, _, _, _, rfl, H2.out.ret _ _ (A0 := none) (l0 := 0) (c0 := 0) ?_ ?_, ?_⟩
    · rw [Hc.out _ _ (by simp)]; go_simp
    · rw [Hc.out _ _ (by simp)]; go_simp
    · exact ((Hb0.out.trans (((Below.refl _ _).drew.trans Hb3.out).mono Hb0.out.size)).setCell (by simp; omega) _).setCell (by simp; omega) _
  · have hmn : m < 0 := by omega
    by_cases hle : b.natAbs ≤ a.natAbs
    · have hcm : 0 ≤ ncmp a.natAbs b.natAbs := by unfold ncmp; rw [if_neg (by omega)]; split <;> omega
      have Hms := Lib.hid (hge hmn hle)
      clear hms hge hlt
      go_enter Tryz.func83, Tryz.ntmps83
      go_wp2_with fail
      refine (bcmp_any _ _ _ a.natAbs _ _ _ b.natAbs _ hA0 hB0 (by omega) (by omega)).mono ?_
      rintro e w1 ⟨rfl, rfl⟩
      go_wp2_with fail
      have hA1 := hA0.below (Below.refl _ _).drew
      have hB1 := hB0.below (Below.refl _ _).drew
      clear hA0 hB0
      go_region_held3 (fun w' => w'.cell? ⟨w.heap.size, 0, none⟩ = some (.int .i64 p) ∧ w'.cell? ⟨w.heap.size, 1, none⟩ = some (.slice A la ca) ∧ w'.cell? ⟨w.heap.size + 1, 0, none⟩ = some (.int .i64 q) ∧ w'.cell? ⟨w.heap.size + 1, 1, none⟩ = some (.slice B lb cb)) (refine ⟨?_, ?_, ?_, ?_⟩ <;> go_simp) (first
        | (go_at_call 106; go_must (refine (bsub_any _ _ _ a.natAbs _ _ _ b.natAbs _ hA1 hB1 (by omega) (by omega) hle).mono ?_; rintro e w1 ⟨A1, l1, c1, rfl, h1, ht1, hb1⟩; obtain ⟨hc, hf⟩ := bcell hb1; have hsz := hb1.size; simp only [World.size_alloc, World.size_drew] at hsz))
        | (go_at_call 63; go_must (refine (zmake_any _ _ _ _ _ _ h1 ht1 (by rw [← h1.length, bts_length]; exact Hs1.out)).mono ?_; rintro e w2 ⟨s2, A2, l2, c2, rfl, h2, hb2⟩; clear hc hf; have hb3 := hb1.trans (hb2.mono hb1.size); obtain ⟨hc, hf⟩ := bcell hb3; have hsz2 := hb2.size)))
      have H2 := Lib.hid h2
      have Hb3 := Lib.hid hb3
      have Hc := Lib.hid hc
      rw [Hms.out] at H2
      clear h2 hb3 hb1 hb2 h1 hA1 hB1
      go_wp2
      refine bodyPost_ret (v := .agg #[.int .i64 s2, .slice A2 l2 c2]) (by simp [results, Tryz.results83, go_sem, hc]) rfl ⟨_, _, _, _, rfl, H2.out.ret _ _ (A0 := none) (l0 := 0) (c0 := 0) ?_ ?_, ?_⟩
      · rw [Hc.out _ _ (by simp)]; go_simp
      · rw [Hc.out _ _ (by simp)]; go_simp
      · exact ((Hb0.out.trans (((Below.refl _ _).drew.trans Hb3.out).mono Hb0.out.size)).setCell (by simp; omega) _).setCell (by simp; omega) _
    · have hcm : ¬ 0 ≤ ncmp a.natAbs b.natAbs := by unfold ncmp; rw [if_pos (by omega)]; omega
      have Hms := Lib.hid (hlt hmn (by omega))
      clear hms hge hlt
      go_enter Tryz.func83, Tryz.ntmps83
      go_wp2_with fail
      refine (bcmp_any _ _ _ a.natAbs _ _ _ b.natAbs _ hA0 hB0 (by omega) (by omega)).mono ?_
      rintro e w1 ⟨rfl, rfl⟩
      go_wp2_with fail
      have hA1 := hA0.below (Below.refl _ _).drew
      have hB1 := hB0.below (Below.refl _ _).drew
      clear hA0 hB0
      go_region_held3 (fun w' => w'.cell? ⟨w.heap.size, 0, none⟩ = some (.int .i64 p) ∧ w'.cell? ⟨w.heap.size, 1, none⟩ = some (.slice A la ca) ∧ w'.cell? ⟨w.heap.size + 1, 0, none⟩ = some (.int .i64 q) ∧ w'.cell? ⟨w.heap.size + 1, 1, none⟩ = some (.slice B lb cb)) (refine ⟨?_, ?_, ?_, ?_⟩ <;> go_simp) (first
        | (go_at_call 106; go_must (refine (bsub_any _ _ _ b.natAbs _ _ _ a.natAbs _ hB1 hA1 (by omega) (by omega) (by omega)).mono ?_; rintro e w1 ⟨A1, l1, c1, rfl, h1, ht1, hb1⟩; obtain ⟨hc, hf⟩ := bcell hb1; have hsz := hb1.size; simp only [World.size_alloc, World.size_drew] at hsz))
        | (go_at_call 63; go_must (refine (zmake_any _ _ _ _ _ _ h1 ht1 (by rw [← h1.length, bts_length]; exact Hs2.out)).mono ?_; rintro e w2 ⟨s2, A2, l2, c2, rfl, h2, hb2⟩; clear hc hf; have hb3 := hb1.trans (hb2.mono hb1.size); obtain ⟨hc, hf⟩ := bcell hb3; have hsz2 := hb2.size)))
      have H2 := Lib.hid h2
      have Hb3 := Lib.hid hb3
      have Hc := Lib.hid hc
      rw [Hms.out] at H2
      clear h2 hb3 hb1 hb2 h1 hA1 hB1
      go_wp2
      refine bodyPost_ret (v := .agg #[.int .i64 s2, .slice A2 l2 c2]) (by simp [results, Tryz.results83, go_sem, hc]) rfl ⟨_, _, _, _, rfl, H2.out.ret _ _ (A0 := none) (l0 := 0) (c0 := 0) ?_ ?_, ?_⟩
      · rw [Hc.out _ _ (by simp)]; go_simp
      · rw [Hc.out _ _ (by simp)]; go_simp
      · exact ((Hb0.out.trans (((Below.refl _ _).drew.trans Hb3.out).mono Hb0.out.size)).setCell (by simp; omega) _).setCell (by simp; omega) _
end Go.Proofs.YtgblfpkfapmlnaaGreat

/- The walk of cylinderref02.Small. -/
namespace Go.Proofs.YtgblfpkfapmlnaaGreat
open Go.RowKit

set_option maxRecDepth 100000 in
set_option maxHeartbeats 2000000 in
theorem zsmall_any (z : Int) (w : World) (hz : z.natAbs ≤ 1000000000000) :
    Calls Tryz.prog 33 #[.int .i64 z] w (ZRet w z) := by
  obtain ⟨i0, hi, hz0, hz1, hz2⟩ := info_parts info_int64
  obtain ⟨m, hm⟩ : ∃ m, m = z.natAbs := ⟨_, rfl⟩
  rw [← hm] at hz
  obtain ⟨L, hL⟩ : ∃ L, L = bln m := ⟨_, rfl⟩
  have hLb : L ≤ 40 := by rw [hL]; exact bln_le (by omega)
  have HL := Lib.hid (show m < 2 ^ L by rw [hL]; exact bln_lt m)
  have HLg := Lib.hid (fun k (h : m < 2 ^ k) => (show L ≤ k by rw [hL]; exact bln_le h))
  obtain ⟨Q, hQ0⟩ : ∃ Q, Q = tabQ m L := ⟨_, rfl⟩
  have hQ := Lib.hid hQ0
  have hQl := Lib.hid (show Q.length = L by rw [hQ0, tabQ_length])
  have hQb := Lib.hid (show Q = bts m by rw [hQ0, hL]; rfl)
  have hb0 : Below w.heap.size w (w.alloc (zbox 0 none 0 0)) := (Below.refl _ _).alloc (Nat.le_refl _) _
  have Hb0 := Lib.hid hb0
  have i0m : IntKind.i64.wrap (m : Int) = (m : Int) := IntWalk.i64_in _ (by omega)
  clear hL hQ0 hb0
  rcases Int.lt_or_le z 0 with h | h
  · have hzz : z = -(m : Int) := by omega
    have hneg : -(m : Int) < 0 := by omega
    have hneg2 : (0 : Int) < (m : Int) := by omega
    have hneg3 : 0 < m := by omega
    subst hzz
    clear h hm
    have Hsz := Lib.hid (sgn_true m)
    go_enter Tryz.func33, Tryz.ntmps33
    go_wp2
    go_loopw [0, 4] (fun s0 s4 wr => ∃ k v : Nat, k ≤ L ∧ s0 = .int .i64 (v : Int) ∧ v = m / 2 ^ k ∧ OwnI 3 wr (w.heap.size + 1) s4 k Q ∧ Below (w.heap.size + 1) (w.alloc (zbox 0 none 0 0)) wr) (fun s0 _ _ => (intOf s0).toNat)
    case atStart => exact ⟨0, m, Nat.zero_le _, rfl, by simp, World.ownsRow_nil _ _ _ _, Below.refl _ _⟩
    case round =>
      obtain ⟨k, v, hk, rfl, hv, hown, hbw⟩ := hrel
      have Hown := Lib.hid hown
      have Hbw := Lib.hid hbw
      have Hv := Lib.hid hv
      have hbs : w.heap.size + 1 ≤ wr.heap.size := by have := hbw.size; simpa using this
      clear hown
      by_cases hv0 : 0 < v
      · have hkL : k < L := by
          refine Classical.byContradiction fun hn => ?_
          have h2 : m < 2 ^ k := Nat.lt_of_lt_of_le HL.out (Nat.pow_le_pow_right (by decide) (by omega))
          rw [hv, Nat.div_eq_of_lt h2] at hv0
          omega
        have hvm : v ≤ m := by rw [hv]; exact Nat.div_le_self _ _
        obtain ⟨b, hb⟩ : ∃ b, b = btn m k := ⟨_, rfl⟩
        obtain ⟨v2, hv2⟩ : ∃ v2, v2 = v / 2 := ⟨_, rfl⟩
        have hb2 : v % 2 = b := by rw [hb, hv]; rfl
        have Hv2 := Lib.hid (show v2 = m / 2 ^ (k + 1) by rw [hv2, hv, Nat.pow_succ, Nat.div_div_eq_div_mul])
        have Hg := Lib.hid (show Q[k]?.getD 0 = (b : Int) by rw [hQ.out, tabQ_get _ _ hkL, hb])
        have t1 : (0 : Int) < (v : Int) := by omega
        have i1 : Int.tmod (v : Int) 2 = (b : Int) := by rw [← hb2]; rfl
        have i2 : Int.tdiv (v : Int) 2 = (v2 : Int) := by rw [hv2]; rfl
        have i3 : IntKind.i64.wrap (b : Int) = (b : Int) := IntWalk.i64_in _ (by omega)
        have i4 : IntKind.i64.wrap (v2 : Int) = (v2 : Int) := IntWalk.i64_in _ (by omega)
        have i5 : v2 < v := by omega
        clear hv hb hv2 hb2 hbw
        go_wp2_with (at_builtin; refine wpList_append_one rfl (.tmp 12) (.tmp 15) 48 rfl (w.heap.size + 1) 3 i0 (.int .i64 0) 8 Tryz.underlying48 hi hz0 hz1 hz2 rfl _ (.int .i64 b) k _ rfl rfl Hown.out rfl (by omega) (by omega) hbs ?_)
        intro v' w1 hown' hgrow
        have R := Lib.hid (OwnI.step (v' := v') (by rw [hQl.out]; omega) hbs Hown.out Hbw.out (by rw [Hg.out]; exact hown') hgrow)
        clear hown' hgrow
        go_wp2
        go_roundw
        case rel => exact ⟨k + 1, v2, by omega, by go_num, Hv2.out, R.out.1, R.out.2⟩
        case measure => simp [intOf]; omega
      · have hv00 : v = 0 := by omega
        have hm2 : m < 2 ^ k := by
          rw [hv00] at hv
          exact (Nat.div_eq_zero_iff_lt (two_pow_pos k)).1 hv.symm
        have hkL : k = L := by have := HLg.out k hm2; omega
        have t1 : ¬ (0 : Int) < (v : Int) := by omega
        obtain ⟨A', cap', rfl, hat⟩ := Hown.out.at_take (by rw [hQl.out]; exact hk)
        rw [show Q.take k = bts m by rw [← hQb.out]; exact List.take_of_length_le (by rw [hQl.out]; omega)] at hat
        have Hat := Lib.hid hat
        have Hty := Lib.hid (own_typ Hown.out)
        clear hat hv hm2 hv00 hkL hi hz0 hz1 hz2
        go_wp2_with fail
        refine (zmake_any true _ _ _ m _ Hat.out Hty.out (by omega)).mono ?_
        rintro e w2 ⟨s2, A2, l2, c2, rfl, h2, hb2⟩
        rw [Hsz.out] at h2
        have hb3 := hbw.trans (hb2.mono hbs)
        rw [← World.size_alloc w (zbox 0 none 0 0)] at hb3
        obtain ⟨hc, hf⟩ := bcell hb3
        have hsz := hb3.size
        simp only [World.size_alloc] at hsz
        have H2 := Lib.hid h2
        have Hb3 := Lib.hid hb3
        have Hc := Lib.hid hc
        clear h2 hb2 hb3 hbw
        go_wp2
        refine bodyPost_ret (v := .agg #[.int .i64 s2, .slice A2 l2 c2]) (by simp [results, Tryz.results33, go_sem, hc]) rfl ⟨_, _, _, _, rfl, H2.out.ret _ _ (A0 := none) (l0 := 0) (c0 := 0) ?_ ?_, ?_⟩
        · rw [Hc.out _ _ (by simp)]; go_simp
        · rw [Hc.out _ _ (by simp)]; go_simp
        · exact ((Hb0.out.trans (Hb3.out.mono Hb0.out.size)).setCell (Nat.le_refl _) _).setCell (Nat.le_refl _) _
  · have hzz : z = (m : Int) := by omega
    subst hzz
    clear h hm
    have hneg : ¬ (m : Int) < 0 := by omega
    have Hsz := Lib.hid (sgn_false m)
    go_enter Tryz.func33, Tryz.ntmps33
    go_wp2
    go_loopw [0, 4] (fun s0 s4 wr => ∃ k v : Nat, k ≤ L ∧ s0 = .int .i64 (v : Int) ∧ v = m / 2 ^ k ∧ OwnI 3 wr (w.heap.size + 1) s4 k Q ∧ Below (w.heap.size + 1) (w.alloc (zbox 0 none 0 0)) wr) (fun s0 _ _ => (intOf s0).toNat)
    case atStart => exact ⟨0, m, Nat.zero_le _, rfl, by simp, World.ownsRow_nil _ _ _ _, Below.refl _ _⟩
    case round =>
      obtain ⟨k, v, hk, rfl, hv, hown, hbw⟩ := hrel
      have Hown := Lib.hid hown
      have Hbw := Lib.hid hbw
      have Hv := Lib.hid hv
      have hbs : w.heap.size + 1 ≤ wr.heap.size := by have := hbw.size; simpa using this
      clear hown
      by_cases hv0 : 0 < v
      · have hkL : k < L := by
          refine Classical.byContradiction fun hn => ?_
          have h2 : m < 2 ^ k := Nat.lt_of_lt_of_le HL.out (Nat.pow_le_pow_right (by decide) (by omega))
          rw [hv, Nat.div_eq_of_lt h2] at hv0
          omega
        have hvm : v ≤ m := by rw [hv]; exact Nat.div_le_self _ _
        obtain ⟨b, hb⟩ : ∃ b, b = btn m k := ⟨_, rfl⟩
        obtain ⟨v2, hv2⟩ : ∃ v2, v2 = v / 2 := ⟨_, rfl⟩
        have hb2 : v % 2 = b := by rw [hb, hv]; rfl
        have Hv2 := Lib.hid (show v2 = m / 2 ^ (k + 1) by rw [hv2, hv, Nat.pow_succ, Nat.div_div_eq_div_mul])
        have Hg := Lib.hid (show Q[k]?.getD 0 = (b : Int) by rw [hQ.out, tabQ_get _ _ hkL, hb])
        have t1 : (0 : Int) < (v : Int) := by omega
        have i1 : Int.tmod (v : Int) 2 = (b : Int) := by rw [← hb2]; rfl
        have i2 : Int.tdiv (v : Int) 2 = (v2 : Int) := by rw [hv2]; rfl
        have i3 : IntKind.i64.wrap (b : Int) = (b : Int) := IntWalk.i64_in _ (by omega)
        have i4 : IntKind.i64.wrap (v2 : Int) = (v2 : Int) := IntWalk.i64_in _ (by omega)
        have i5 : v2 < v := by omega
        clear hv hb hv2 hb2 hbw
        go_wp2_with (at_builtin; refine wpList_append_one rfl (.tmp 12) (.tmp 15) 48 rfl (w.heap.size + 1) 3 i0 (.int .i64 0) 8 Tryz.underlying48 hi hz0 hz1 hz2 rfl _ (.int .i64 b) k _ rfl rfl Hown.out rfl (by omega) (by omega) hbs ?_)
        intro v' w1 hown' hgrow
        have R := Lib.hid (OwnI.step (v' := v') (by rw [hQl.out]; omega) hbs Hown.out Hbw.out (by rw [Hg.out]; exact hown') hgrow)
        clear hown' hgrow
        go_wp2
        go_roundw
        case rel => exact ⟨k + 1, v2, by omega, by go_num, Hv2.out, R.out.1, R.out.2⟩
        case measure => simp [intOf]; omega
      · have hv00 : v = 0 := by omega
        have hm2 : m < 2 ^ k := by
          rw [hv00] at hv
          exact (Nat.div_eq_zero_iff_lt (two_pow_pos k)).1 hv.symm
        have hkL : k = L := by have := HLg.out k hm2; omega
        have t1 : ¬ (0 : Int) < (v : Int) := by omega
        obtain ⟨A', cap', rfl, hat⟩ := Hown.out.at_take (by rw [hQl.out]; exact hk)
        rw [show Q.take k = bts m by rw [← hQb.out]; exact List.take_of_length_le (by rw [hQl.out]; omega)] at hat
        have Hat := Lib.hid hat
        have Hty := Lib.hid (own_typ Hown.out)
        clear hat hv hm2 hv00 hkL hi hz0 hz1 hz2
        go_wp2_with fail
        refine (zmake_any false _ _ _ m _ Hat.out Hty.out (by omega)).mono ?_
        rintro e w2 ⟨s2, A2, l2, c2, rfl, h2, hb2⟩
        rw [Hsz.out] at h2
        have hb3 := hbw.trans (hb2.mono hbs)
        rw [← World.size_alloc w (zbox 0 none 0 0)] at hb3
        obtain ⟨hc, hf⟩ := bcell hb3
        have hsz := hb3.size
        simp only [World.size_alloc] at hsz
        have H2 := Lib.hid h2
        have Hb3 := Lib.hid hb3
        have Hc := Lib.hid hc
        clear h2 hb2 hb3 hbw
        go_wp2
        refine bodyPost_ret (v := .agg #[.int .i64 s2, .slice A2 l2 c2]) (by simp [results, Tryz.results33, go_sem, hc]) rfl ⟨_, _, _, _, rfl, H2.out.ret _ _ (A0 := none) (l0 := 0) (c0 := 0) ?_ ?_, ?_⟩
        · rw [Hc.out _ _ (by simp)]; go_simp
        · rw [Hc.out _ _ (by simp)]; go_simp
        · exact ((Hb0.out.trans (Hb3.out.mono Hb0.out.size)).setCell (Nat.le_refl _) _).setCell (Nat.le_refl _) _
end Go.Proofs.YtgblfpkfapmlnaaGreat
