/- What a polynomial looks like in memory; rows of integers that the call itself fills. -/
import Derived.Test.YtfpliceenjbclaaIntC
namespace Go.Proofs.Ytfpliceenjbclaa
open Go.RowKit

/-- the length without zeros at the upper end -/
def plen : List Int → Nat
  | [] => 0
  | d :: ds => if plen ds = 0 then (if d = 0 then 0 else 1) else plen ds + 1

theorem plen_cons_zero {d : Int} {ds : List Int} (h : plen ds = 0) (h0 : d = 0) : plen (d :: ds) = 0 := by simp [plen, h, h0]
theorem plen_cons_one {d : Int} {ds : List Int} (h : plen ds = 0) (h0 : d ≠ 0) : plen (d :: ds) = 1 := by simp [plen, h, h0]
theorem plen_cons_succ {d : Int} {ds : List Int} (h : plen ds ≠ 0) : plen (d :: ds) = plen ds + 1 := by simp [plen, h]

theorem plen_le (ds : List Int) : plen ds ≤ ds.length := by
  induction ds with
  | nil => simp [plen]
  | cons d ds ih =>
    rw [List.length_cons]
    by_cases h : plen ds = 0
    · by_cases h0 : d = 0
      · rw [plen_cons_zero h h0]; omega
      · rw [plen_cons_one h h0]; omega
    · rw [plen_cons_succ h]; omega

theorem plen_pred (ds : List Int) : ∀ k, plen ds ≤ k + 1 → ds.getD k 0 = 0 → plen ds ≤ k := by
  induction ds with
  | nil => intro k _ _; simp [plen]
  | cons d ds ih =>
    intro k h h0
    cases k with
    | zero =>
      have h0 : d = 0 := by simpa using h0
      by_cases h1 : plen ds = 0
      · rw [plen_cons_zero h1 h0]; omega
      · rw [plen_cons_succ h1] at h; omega
    | succ k =>
      have := ih k
      rw [List.getD_cons_succ] at h0
      by_cases h1 : plen ds = 0
      · by_cases h2 : d = 0
        · rw [plen_cons_zero h1 h2]; omega
        · rw [plen_cons_one h1 h2]; omega
      · rw [plen_cons_succ h1] at h ⊢
        have := this (by omega) h0
        omega

theorem plen_eq (ds : List Int) : ∀ k, plen ds ≤ k + 1 → ds.getD k 0 ≠ 0 → plen ds = k + 1 := by
  induction ds with
  | nil => intro k _ h; simp at h
  | cons d ds ih =>
    intro k h h0
    cases k with
    | zero =>
      have h0 : d ≠ 0 := by simpa using h0
      by_cases h1 : plen ds = 0
      · rw [plen_cons_one h1 h0]
      · rw [plen_cons_succ h1] at h; omega
    | succ k =>
      rw [List.getD_cons_succ] at h0
      have h1 : plen ds = k + 1 := by
        by_cases h1 : plen ds = 0
        · exact ih k (by omega) h0
        · rw [plen_cons_succ h1] at h; exact ih k (by omega) h0
      rw [plen_cons_succ (by omega), h1]

/-- without zeros at the upper end -/
def ptrim (p : List Int) : List Int := p.take (plen p)
theorem ptrim_length (p : List Int) : (ptrim p).length = plen p := by
  have := plen_le p
  simp [ptrim, List.length_take]; omega
theorem plen_ptrim (p : List Int) : plen (ptrim p) = plen p := by
  unfold ptrim
  induction p with
  | nil => rfl
  | cons d ds ih =>
    by_cases h1 : plen ds = 0
    · by_cases h2 : d = 0
      · rw [plen_cons_zero h1 h2]; rfl
      · rw [plen_cons_one h1 h2]; simp [plen, h2]
    · rw [plen_cons_succ h1, List.take_succ_cons, plen_cons_succ (by rw [ih]; exact h1), ih]
theorem ptrim_ptrim (p : List Int) : ptrim (ptrim p) = ptrim p := by
  have h := plen_ptrim p
  have h2 := ptrim_length p
  rw [ptrim, h, List.take_of_length_le (by omega)]

/-- the coefficients are small enough -/
def SmP (p : List Int) : Prop := ∀ c ∈ p, SmI c
theorem SmP.getD {p : List Int} (h : SmP p) (k : Nat) : SmI (p.getD k 0) := by
  rw [List.getD_eq_getElem?_getD]
  cases e : p[k]? with
  | none =>
    show dlen 0 ≤ _
    rw [dlen_zero]; omega
  | some x => exact h x (List.mem_of_getElem? e)
theorem SmP.take {p : List Int} (h : SmP p) (k : Nat) : SmP (p.take k) := fun c hc => h c (List.mem_of_mem_take hc)
theorem SmP.ptrim {p : List Int} (h : SmP p) : SmP (ptrim p) := h.take _

/-- A kind of integers in memory: canonical ones, or whatever ones. -/
abbrev IntPred : Type := World → Bool → Option Addr → Nat → Nat → Int → Prop
structure IK (I : IntPred) : Prop where
  at_ : ∀ {w neg A l c z}, I w neg A l c z → IntAt w neg A l c z
  below : ∀ {w w' neg A l c z}, I w neg A l c z → Below w.heap.size w w' → I w' neg A l c z
theorem ikAt : IK IntAt := ⟨fun h => h, fun h hb => h.below hb⟩
theorem ikN : IK IntN := ⟨fun h => h.at_, fun h hb => h.below hb⟩

/-- a slice whose elements are the coefficients p -/
structure PolyP (I : IntPred) (w : World) (A : Option Addr) (len cap : Nat) (p : List Int) : Prop where
  length : p.length = len
  cap : len ≤ cap
  elems : len = 0 ∨ ∃ b off, A = some ⟨b, off, none⟩ ∧ b < w.heap.size ∧ ∀ j, j < len → ∃ neg Aj lj cj, w.cell? ⟨b, off + j * 2, none⟩ = some (.bool neg) ∧ w.cell? ⟨b, off + j * 2 + 1, none⟩ = some (.slice Aj lj cj) ∧ I w neg Aj lj cj (p.getD j 0)

abbrev PolyAt := PolyP IntAt
abbrev PolyN := PolyP IntN

section
variable {I : IntPred} {w w' : World} {A : Option Addr} {len cap : Nat} {p : List Int}

theorem PolyP.below (hI : IK I) (h : PolyP I w A len cap p) (hb : Below w.heap.size w w') : PolyP I w' A len cap p := by
  refine ⟨h.length, h.cap, ?_⟩
  rcases h.elems with h0 | ⟨b, off, hA, hlt, hc⟩
  · exact .inl h0
  · refine .inr ⟨b, off, hA, Nat.lt_of_lt_of_le hlt hb.size, fun j hj => ?_⟩
    obtain ⟨neg, Aj, lj, cj, h1, h2, h3⟩ := hc j hj
    exact ⟨neg, Aj, lj, cj, (hb.cell (p := ⟨b, off + j * 2, none⟩) hlt).trans h1, (hb.cell (p := ⟨b, off + j * 2 + 1, none⟩) hlt).trans h2, hI.below h3 hb⟩
theorem PolyP.at_ (hI : IK I) (h : PolyP I w A len cap p) : PolyAt w A len cap p := by
  refine ⟨h.length, h.cap, ?_⟩
  rcases h.elems with h0 | ⟨b, off, hA, hlt, hc⟩
  · exact .inl h0
  · refine .inr ⟨b, off, hA, hlt, fun j hj => ?_⟩
    obtain ⟨neg, Aj, lj, cj, h1, h2, h3⟩ := hc j hj
    exact ⟨neg, Aj, lj, cj, h1, h2, hI.at_ h3⟩
theorem PolyP.nil (I : IntPred) (w : World) (A : Option Addr) (cap : Nat) : PolyP I w A 0 cap [] := ⟨rfl, Nat.zero_le _, .inl rfl⟩
theorem PolyP.get (h : PolyP I w A len cap p) (hl : 0 < len) : ∃ b off, A = some ⟨b, off, none⟩ ∧ b < w.heap.size ∧ ∀ j, j < len → ∃ neg Aj lj cj, w.cell? ⟨b, off + j * 2, none⟩ = some (.bool neg) ∧ w.cell? ⟨b, off + j * 2 + 1, none⟩ = some (.slice Aj lj cj) ∧ I w neg Aj lj cj (p.getD j 0) := by
  rcases h.elems with h0 | h1
  · omega
  · exact h1
theorem PolyP.take (h : PolyP I w A len cap p) {k : Nat} (hk : k ≤ len) : PolyP I w A k cap (p.take k) := by
  refine ⟨by rw [List.length_take, h.length]; omega, by have := h.cap; omega, ?_⟩
  rcases Nat.eq_zero_or_pos k with h0 | h0
  · exact .inl h0
  · obtain ⟨b, off, hA, hlt, hc⟩ := h.get (by omega)
    refine .inr ⟨b, off, hA, hlt, fun j hj => ?_⟩
    obtain ⟨neg, Aj, lj, cj, h1, h2, h3⟩ := hc j (by omega)
    refine ⟨neg, Aj, lj, cj, h1, h2, ?_⟩
    have e : (p.take k).getD j 0 = p.getD j 0 := by simp [List.getD_eq_getElem?_getD, hj]
    rw [e]; exact h3
end

/-- Block g is a row of canonical integers that the call itself made. -/
structure PRow (w : World) (g : Nat) (zs : List Int) : Prop where
  blk : ∃ cs, Blk w g 43 cs ∧ cs.size = zs.length * 2
  elems : ∀ j, j < zs.length → ∃ neg A l c, w.cell? ⟨g, j * 2, none⟩ = some (.bool neg) ∧ w.cell? ⟨g, j * 2 + 1, none⟩ = some (.slice A l c) ∧ IntN w neg A l c (zs.getD j 0)

section
variable {w w' : World} {g : Nat} {zs : List Int}
theorem PRow.lt (h : PRow w g zs) : g < w.heap.size := by
  obtain ⟨cs, hb, _⟩ := h.blk
  exact hb.lt
theorem PRow.frozen (h : PRow w g zs) (i : Nat) : w.frozen? ⟨g, i, none⟩ = false := by
  obtain ⟨cs, hb, _⟩ := h.blk
  exact hb.frozen i
theorem PRow.below (h : PRow w g zs) (hb : Below w.heap.size w w') : PRow w' g zs := by
  have hlt := h.lt
  obtain ⟨cs, hk, hs⟩ := h.blk
  refine ⟨⟨cs, hk.below hb hlt, hs⟩, fun j hj => ?_⟩
  obtain ⟨neg, A, l, c, h1, h2, h3⟩ := h.elems j hj
  exact ⟨neg, A, l, c, (hb.cell (p := ⟨g, j * 2, none⟩) hlt).trans h1, (hb.cell (p := ⟨g, j * 2 + 1, none⟩) hlt).trans h2, h3.below hb⟩
theorem PRow.poly (h : PRow w g zs) {cap : Nat} (hc : zs.length ≤ cap) : PolyN w (some ⟨g, 0, none⟩) zs.length cap zs :=
  ⟨rfl, hc, .inr ⟨g, 0, rfl, h.lt, fun j hj => by simpa using h.elems j hj⟩⟩

/-- One integer of the row is set. -/
theorem PRow.set_ (h : PRow w g zs) {i : Nat} (hi : i < zs.length) {neg : Bool} {A : Option Addr} {l c : Nat} {z : Int} (hz : IntN w neg A l c z) :
    PRow ((w.setCell ⟨g, i * 2, none⟩ (.bool neg)).setCell ⟨g, i * 2 + 1, none⟩ (.slice A l c)) g (zs.set i z) := by
  obtain ⟨cs, hk, hs⟩ := h.blk
  obtain ⟨n0, A0, l0, c0, e0, e1, _⟩ := h.elems i hi
  have e1' : (w.setCell ⟨g, i * 2, none⟩ (.bool neg)).cell? ⟨g, i * 2 + 1, none⟩ = some (.slice A0 l0 c0) := by
    rw [World.cell?_setCell_other w _ _ _ (by simp)]; exact e1
  have keep : ∀ {neg' A' l' c' z'}, IntN w neg' A' l' c' z' → IntN ((w.setCell ⟨g, i * 2, none⟩ (.bool neg)).setCell ⟨g, i * 2 + 1, none⟩ (.slice A l c)) neg' A' l' c' z' :=
    fun hn => (hn.store _ e0 (noDigit_bool _)).store _ e1' (noDigit_slice _ _ _)
  have hk1 := (hk.set_ (i * 2) (.bool neg)).set_ (i * 2 + 1) (.slice A l c)
  refine ⟨⟨_, hk1, by simp [hs]⟩, fun j hj => ?_⟩
  rw [List.length_set] at hj
  rcases Nat.decEq j i with hne | heq
  · obtain ⟨n1, A1, l1, c1, f0, f1, f2⟩ := h.elems j hj
    refine ⟨n1, A1, l1, c1, ?_, ?_, ?_⟩
    · rw [World.cell?_setCell_other _ _ _ _ (by intro e; injection e; omega), World.cell?_setCell_other _ _ _ _ (by intro e; injection e; omega)]; exact f0
    · rw [World.cell?_setCell_other _ _ _ _ (by intro e; injection e; omega), World.cell?_setCell_other _ _ _ _ (by intro e; injection e; omega)]; exact f1
    · have e : (zs.set i z).getD j 0 = zs.getD j 0 := by
        rw [List.getD_eq_getElem?_getD, List.getElem?_set_ne (by omega), ← List.getD_eq_getElem?_getD]
      rw [e]; exact keep f2
  · subst heq
    refine ⟨neg, A, l, c, ?_, ?_, ?_⟩
    · rw [hk1.cell, Array.getElem?_setIfInBounds_ne (by omega), Array.getElem?_setIfInBounds_self_of_lt (by omega)]
    · rw [hk1.cell, Array.getElem?_setIfInBounds_self_of_lt (by rw [Array.size_setIfInBounds]; omega)]
    · have e : (zs.set j z).getD j 0 = z := by simp [List.getD_eq_getElem?_getD, hi]
      rw [e]; exact keep hz
end
end Go.Proofs.Ytfpliceenjbclaa
