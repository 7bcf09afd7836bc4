/- What a natural number and an integer look like in memory; blocks that are known whole. -/
import Derived.Below
import Derived.Laws.OwnMore
import Derived.Deep.Draws
import Derived.Laws.Rows
import Derived.Test.YtfpliceenjbclaaDig
namespace Go.Proofs.Ytfpliceenjbclaa
open Go.RowKit

/-- a slice whose elements are the digits ds -/
structure DigAt (w : World) (A : Option Addr) (len cap : Nat) (ds : List Nat) : Prop where
  length : ds.length = len
  cap : len ≤ cap
  wd : Wd ds
  cells : len = 0 ∨ ∃ b off, A = some ⟨b, off, none⟩ ∧ b < w.heap.size ∧ ∀ j, j < len → w.cell? ⟨b, off + j, none⟩ = some (.int .u32 ((ds.getD j 0 : Nat) : Int))

theorem DigAt.below {w w' : World} {A : Option Addr} {len cap : Nat} {ds : List Nat} (h : DigAt w A len cap ds) (hb : Below w.heap.size w w') : DigAt w' A len cap ds := by
  refine ⟨h.length, h.cap, h.wd, ?_⟩
  rcases h.cells with h0 | ⟨b, off, hA, hlt, hc⟩
  · exact .inl h0
  · exact .inr ⟨b, off, hA, Nat.lt_of_lt_of_le hlt hb.size, fun j hj => (hb.cell (p := ⟨b, off + j, none⟩) hlt).trans (hc j hj)⟩

theorem DigAt.nil (w : World) (A : Option Addr) (cap : Nat) : DigAt w A 0 cap [] := ⟨rfl, Nat.zero_le _, Wd.nil, .inl rfl⟩

theorem DigAt.at_ {w : World} {A : Option Addr} {len cap : Nat} {ds : List Nat} (h : DigAt w A len cap ds) (hl : 0 < len) :
    ∃ b off, A = some ⟨b, off, none⟩ ∧ b < w.heap.size ∧ ∀ j, j < len → w.cell? ⟨b, off + j, none⟩ = some (.int .u32 ((ds.getD j 0 : Nat) : Int)) := by
  rcases h.cells with h0 | h1
  · omega
  · exact h1

theorem DigAt.take {w : World} {A : Option Addr} {len cap : Nat} {ds : List Nat} (h : DigAt w A len cap ds) {k : Nat} (hk : k ≤ len) : DigAt w A k cap (ds.take k) := by
  refine ⟨by rw [List.length_take, h.length]; omega, by have := h.cap; omega, h.wd.take k, ?_⟩
  rcases Nat.eq_zero_or_pos k with h0 | h0
  · exact .inl h0
  · obtain ⟨b, off, hA, hlt, hc⟩ := h.at_ (by omega)
    refine .inr ⟨b, off, hA, hlt, fun j hj => ?_⟩
    rw [hc j (by omega)]
    simp [List.getD_eq_getElem?_getD, hj]

/-- a number is small enough for every loop and every slice: its digits are fewer than 2^40 -/
def Sm (n : Nat) : Prop := dlen n ≤ 1099511627776
theorem Sm.mono {a b : Nat} (h : Sm b) (hab : a ≤ b) : Sm a := Nat.le_trans (dlen_mono hab) h

/-- a slice of digits, normal or nearly so, of the number n -/
structure NatAt (w : World) (A : Option Addr) (len cap : Nat) (n : Nat) : Prop where
  short : len ≤ dlen n + 8
  digits : ∃ ds, DigAt w A len cap ds ∧ val ds = n

/-- a slice of the normal digits of n -/
structure NatN (w : World) (A : Option Addr) (len cap : Nat) (n : Nat) : Prop where
  digits : DigAt w A len cap (digs n)

theorem NatAt.below {w w' : World} {A : Option Addr} {len cap : Nat} {n : Nat} (h : NatAt w A len cap n) (hb : Below w.heap.size w w') : NatAt w' A len cap n := by
  obtain ⟨hs, ds, hd, hv⟩ := h
  exact ⟨hs, ds, hd.below hb, hv⟩
theorem NatN.below {w w' : World} {A : Option Addr} {len cap : Nat} {n : Nat} (h : NatN w A len cap n) (hb : Below w.heap.size w w') : NatN w' A len cap n := ⟨h.digits.below hb⟩
theorem NatN.at_ {w : World} {A : Option Addr} {len cap : Nat} {n : Nat} (h : NatN w A len cap n) : NatAt w A len cap n :=
  ⟨by have := h.digits.length; unfold dlen; omega, digs n, h.digits, val_digs n⟩
theorem NatN.len {w : World} {A : Option Addr} {len cap : Nat} {n : Nat} (h : NatN w A len cap n) : len = dlen n := h.digits.length.symm
theorem NatN.zero (w : World) (A : Option Addr) (cap : Nat) : NatN w A 0 cap 0 := ⟨by rw [digs_zero]; exact DigAt.nil w A cap⟩

/-- the integer with this sign and absolute value -/
def sgn (neg : Bool) (n : Nat) : Int := if neg then -(n : Int) else n
theorem sgn_true (n : Nat) : sgn true n = -(n : Int) := rfl
theorem sgn_false (n : Nat) : sgn false n = (n : Int) := rfl
theorem sgn_natAbs (neg : Bool) (n : Nat) : (sgn neg n).natAbs = n := by cases neg <;> simp [sgn]

/-- a sign and a slice of digits of the integer z -/
structure IntAt (w : World) (neg : Bool) (A : Option Addr) (len cap : Nat) (z : Int) : Prop where
  nat : NatAt w A len cap z.natAbs
  sign : z = sgn neg z.natAbs

/-- the canonical form of the integer z -/
structure IntN (w : World) (neg : Bool) (A : Option Addr) (len cap : Nat) (z : Int) : Prop where
  nat : NatN w A len cap z.natAbs
  sign : neg = decide (z < 0)

theorem IntAt.below {w w' : World} {neg : Bool} {A : Option Addr} {len cap : Nat} {z : Int} (h : IntAt w neg A len cap z) (hb : Below w.heap.size w w') : IntAt w' neg A len cap z := ⟨h.nat.below hb, h.sign⟩
theorem IntN.below {w w' : World} {neg : Bool} {A : Option Addr} {len cap : Nat} {z : Int} (h : IntN w neg A len cap z) (hb : Below w.heap.size w w') : IntN w' neg A len cap z := ⟨h.nat.below hb, h.sign⟩
theorem IntN.at_ {w : World} {neg : Bool} {A : Option Addr} {len cap : Nat} {z : Int} (h : IntN w neg A len cap z) : IntAt w neg A len cap z := by
  refine ⟨h.nat.at_, ?_⟩
  rw [h.sign]
  by_cases hz : z < 0
  · simp only [hz, decide_true, sgn_true]; omega
  · simp only [hz, decide_false, sgn_false]; omega

/-- an integer is small enough -/
def SmI (z : Int) : Prop := Sm z.natAbs

/-! ### Blocks that are known whole -/

/-- Block g is just the cells cs of element type t, none frozen. -/
def Blk (w : World) (g : Nat) (t : TypeId) (cs : Array Value) : Prop := w.heap[g]? = some (.cells cs t (0, 0))

section
variable {w w' : World} {g : Nat} {t : TypeId} {cs : Array Value}
theorem Blk.lt (h : Blk w g t cs) : g < w.heap.size := by
  rcases Nat.lt_or_ge g w.heap.size with hlt | hge
  · exact hlt
  · unfold Blk at h; rw [Array.getElem?_eq_none hge] at h; cases h
theorem Blk.cell (h : Blk w g t cs) (i : Nat) : w.cell? ⟨g, i, none⟩ = cs[i]? := cell_of_row w g i cs t (0, 0) h
theorem Blk.frozen (h : Blk w g t cs) (i : Nat) : w.frozen? ⟨g, i, none⟩ = false := by
  unfold Blk at h
  simp [World.frozen?, h]
theorem Blk.new (w : World) (t : TypeId) (cs : Array Value) : Blk (w.alloc (.cells cs t)) w.heap.size t cs := heap_alloc_new w _
theorem Blk.drewN (h : Blk w g t cs) (n : Nat) : Blk (w.drewN n) g t cs := h
theorem Blk.alloc (h : Blk w g t cs) (o : Obj) : Blk (w.alloc o) g t cs := (Below.heap_alloc w o g h.lt).trans h
theorem Blk.set_ (h : Blk w g t cs) (i : Nat) (u : Value) : Blk (w.setCell ⟨g, i, none⟩ u) g t (cs.setIfInBounds i u) := by
  unfold Blk at h ⊢
  simp [World.setCell, Array.getElem?_modify, h]
theorem Blk.far (h : Blk w g t cs) {p : Addr} (hp : g ≠ p.block) (u : Value) : Blk (w.setCell p u) g t cs := (Below.heap_setCell w p u g hp).trans h
theorem Blk.below {B : Nat} (h : Blk w g t cs) (hb : Below B w w') (hg : g < B) : Blk w' g t cs := (hb.block g hg).trans h
end

/-- The cells of a row of digits. -/
def dcells (zs : List Nat) : Array Value := (zs.map fun d : Nat => Value.int .u32 (d : Int)).toArray

theorem dcells_get (zs : List Nat) {i : Nat} (h : i < zs.length) : (dcells zs)[i]? = some (.int .u32 ((zs.getD i 0 : Nat) : Int)) := by
  simp [dcells, List.getD_eq_getElem?_getD, h]
theorem dcells_set (zs : List Nat) (i x : Nat) : (dcells zs).setIfInBounds i (.int .u32 (x : Int)) = dcells (zs.set i x) := by
  simp [dcells, List.map_set]

/-- Block g is a row of digits. -/
def DRow (w : World) (g : Nat) (zs : List Nat) : Prop := Blk w g 155 (dcells zs)

section
variable {w w' : World} {g : Nat} {zs : List Nat}
theorem DRow.lt (h : DRow w g zs) : g < w.heap.size := Blk.lt h
theorem DRow.cell (h : DRow w g zs) {i : Nat} (hi : i < zs.length) : w.cell? ⟨g, i, none⟩ = some (.int .u32 ((zs.getD i 0 : Nat) : Int)) := (Blk.cell h i).trans (dcells_get zs hi)
theorem DRow.frozen (h : DRow w g zs) (i : Nat) : w.frozen? ⟨g, i, none⟩ = false := Blk.frozen h i
theorem DRow.set_ (h : DRow w g zs) (i x : Nat) : DRow (w.setCell ⟨g, i, none⟩ (.int .u32 (x : Int))) g (zs.set i x) := by
  unfold DRow
  rw [← dcells_set]
  exact Blk.set_ h i _
theorem DRow.below {B : Nat} (h : DRow w g zs) (hb : Below B w w') (hg : g < B) : DRow w' g zs := Blk.below h hb hg
theorem DRow.far (h : DRow w g zs) {p : Addr} (hp : g ≠ p.block) (u : Value) : DRow (w.setCell p u) g zs := Blk.far h hp u
theorem DRow.alloc (h : DRow w g zs) (o : Obj) : DRow (w.alloc o) g zs := Blk.alloc h o
theorem DRow.dig (h : DRow w g zs) (hw : Wd zs) {cap : Nat} (hc : zs.length ≤ cap) : DigAt w (some ⟨g, 0, none⟩) zs.length cap zs :=
  ⟨rfl, hc, hw, .inr ⟨g, 0, rfl, h.lt, fun j hj => by rw [Nat.zero_add]; exact h.cell hj⟩⟩
end

theorem bcell {W w1 : World} (hb : Below W.heap.size W w1) : (∀ b o, b < W.heap.size → w1.cell? ⟨b, o, none⟩ = W.cell? ⟨b, o, none⟩) ∧ (∀ b o, b < W.heap.size → w1.frozen? ⟨b, o, none⟩ = W.frozen? ⟨b, o, none⟩) :=
  ⟨fun b o h => hb.cell (p := ⟨b, o, none⟩) h, fun b o h => hb.frozen (p := ⟨b, o, none⟩) h⟩

end Go.Proofs.Ytfpliceenjbclaa
