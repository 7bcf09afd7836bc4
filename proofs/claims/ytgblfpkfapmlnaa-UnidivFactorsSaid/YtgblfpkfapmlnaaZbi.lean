/- A region that makes or fills several numbers of the reference, in any order; the walks of cylinderref03.Quo, Abs. -/
import Derived.Test.YtgblfpkfapmlnaaInv
import Derived.Test.YtgblfpkfapmlnaaBub
namespace Go.Proofs.Ytgblfpkfapmlnaa
open Go Go.RowKit

/-- a number of the reference lies in block g -/
structure ZBox (w : World) (g : Nat) (s : Int) (A : Option Addr) (l c : Nat) (z : Int) : Prop where
  blk : Blk w g 45 #[.int .i64 s, .slice A l c]
  hz : ZAt w s A l c z
section
variable {w w' : World} {g g' : Nat} {s s' : Int} {A A' : Option Addr} {l c l' c' : Nat} {z z' : Int}
theorem ZBox.lt (h : ZBox w g s A l c z) : g < w.heap.size := Blk.lt (t := 45) h.blk
theorem ZBox.c0 (h : ZBox w g s A l c z) : w.cell? ⟨g, 0, none⟩ = some (.int .i64 s) := (Blk.cell (t := 45) h.blk 0).trans rfl
theorem ZBox.c1 (h : ZBox w g s A l c z) : w.cell? ⟨g, 1, none⟩ = some (.slice A l c) := (Blk.cell (t := 45) h.blk 1).trans rfl
theorem ZBox.f0 (h : ZBox w g s A l c z) : w.frozen? ⟨g, 0, none⟩ = false := Blk.frozen (t := 45) h.blk 0
theorem ZBox.f1 (h : ZBox w g s A l c z) : w.frozen? ⟨g, 1, none⟩ = false := Blk.frozen (t := 45) h.blk 1
theorem ZBox.move (h : ZBox w g s A l c z) (hb : Below w.heap.size w w') : ZBox w' g s A l c z := ⟨Blk.below (t := 45) h.blk hb h.lt, h.hz.below hb⟩
theorem ZBox.nil (w : World) : ZBox (w.alloc (zbox 0 none 0 0)) w.heap.size 0 none 0 0 0 := ⟨Blk.new _ _ _, ZAt.zero _ _ _⟩
theorem ZBox.make (h : ZAt w s A l c z) : ZBox (w.alloc (zbox s A l c)) w.heap.size s A l c z := ⟨Blk.new _ _ _, h.below ((Below.refl _ _).alloc (Nat.le_refl _) _)⟩
/-- the bits of a number stay when another number's block is written -/
theorem ZAt.box {cs : Array Value} (h : ZAt w s A l c z) (hb : Blk w g 45 cs) (i : Nat) (u : Value) : ZAt (w.setCell ⟨g, i, none⟩ u) s A l c z := by
  rcases h.typ with h0 | ⟨b, off, ds, hA, hk⟩
  · subst h0
    exact ⟨h.sign, ⟨h.bits.length, h.bits.cap, .inl rfl⟩, .inl rfl⟩
  · have hne : b ≠ g := by
      intro e
      subst e
      unfold Blk at hk hb
      rw [hk] at hb
      cases hb
    have hk2 : Blk (w.setCell ⟨g, i, none⟩ u) b 3 ds := (heap_setCell_other w ⟨g, i, none⟩ b u hne).trans hk
    refine ⟨h.sign, ⟨h.bits.length, h.bits.cap, ?_⟩, .inr ⟨b, off, ds, hA, hk2⟩⟩
    rcases Nat.eq_zero_or_pos l with hl | hl
    · exact .inl hl
    · obtain ⟨b2, off2, hA2, hlt, hc⟩ := h.bits.at_ hl
      rw [hA] at hA2
      cases hA2
      refine .inr ⟨b, off, hA, Blk.lt hk2, fun j hj => ?_⟩
      rw [Blk.cell hk2, ← Blk.cell hk]
      exact hc j hj
theorem ZBox.put (h : ZBox w g s A l c z) (hz : ZAt w s' A' l' c' z') : ZBox ((w.setCell ⟨g, 0, none⟩ (.int .i64 s')).setCell ⟨g, 1, none⟩ (.slice A' l' c')) g s' A' l' c' z' := by
  have h1 := Blk.set_ (t := 45) h.blk 0 (.int .i64 s')
  have h2 := Blk.set_ (t := 45) h1 1 (.slice A' l' c')
  exact ⟨h2, (hz.box h.blk 0 _).box h1 1 _⟩
theorem ZAt.put (hz : ZAt w s' A' l' c' z') (h : ZBox w g s A l c z) (u v : Value) : ZAt ((w.setCell ⟨g, 0, none⟩ u).setCell ⟨g, 1, none⟩ v) s' A' l' c' z' :=
  (hz.box h.blk 0 _).box (Blk.set_ (t := 45) h.blk 0 u) 1 _
theorem ZBox.far (h : ZBox w g s A l c z) (h' : ZBox w g' s' A' l' c' z') (hg : g ≠ g') (u v : Value) : ZBox ((w.setCell ⟨g', 0, none⟩ u).setCell ⟨g', 1, none⟩ v) g s A l c z :=
  ⟨Blk.far (t := 45) (Blk.far (t := 45) h.blk hg _) hg _, h.hz.put h' u v⟩
end

/-- a value that holds the number x -/
def ZVal (v : Value) (x : Int) (w : World) : Prop := ∃ s A l c, v = .agg #[.int .i64 s, .slice A l c] ∧ ZAt w s A l c x
/-- an own variable; where s holds, it holds the number x -/
def OwnV (u : Value) (s : Bool) (x : Int) (k : Nat) (w : World) : Prop := ∃ g s' A l c z, u = .pointer (some ⟨g, 0, none⟩) ∧ k ≤ g ∧ ZBox w g s' A l c z ∧ (s = true → z = x)
theorem ZVal.below {v : Value} {x : Int} {w w' : World} (h : ZVal v x w) (hb : Below w.heap.size w w') : ZVal v x w' := by
  obtain ⟨s, A, l, c, h1, h2⟩ := h
  exact ⟨s, A, l, c, h1, h2.below hb⟩
theorem OwnV.below {u : Value} {s : Bool} {x : Int} {k : Nat} {w w' : World} (h : OwnV u s x k w) (hb : Below w.heap.size w w') : OwnV u s x k w' := by
  obtain ⟨g, s', A, l, c, z, h1, h2, h3, h4⟩ := h
  exact ⟨g, s', A, l, c, z, h1, h2, h3.move hb, h4⟩

/-- the state of such a region: which calls (c), variables (a), stores (s) have come up; k: the first block that is the function's own -/
structure BZ (x : Nat → Int) (k : Nat) (w0 w : World) (c a s : Nat → Bool) (v u : Nat → Value) : Prop where
  b : Below k w0 w
  k0 : k ≤ w0.heap.size
  r : ∀ i, c i = true → ZVal (v i) (x i) w
  o : ∀ i, a i = true → OwnV (u i) (s i) (x i) k w
  d : ∀ i j, i ≠ j → a i = true → a j = true → u i ≠ u j
  sa : ∀ i, s i = true → a i = true
section
variable {x : Nat → Int} {k : Nat} {w0 w w' : World} {c a s : Nat → Bool} {v u : Nat → Value}
theorem BZ.size (h : BZ x k w0 w c a s v u) : k ≤ w.heap.size := Nat.le_trans h.k0 h.b.size
theorem BZ.below (h : BZ x k w0 w c a s v u) (hb : Below w.heap.size w w') : BZ x k w0 w' c a s v u :=
  ⟨h.b.trans (hb.mono h.size), h.k0, fun i hi => (h.r i hi).below hb, fun i hi => (h.o i hi).below hb, h.d, h.sa⟩
theorem BZ.call (h : BZ x k w0 w c a s v u) (hb : Below w.heap.size w w') (i : Nat) {y : Value} (hy : ZVal y (x i) w') : BZ x k w0 w' (upd c i true) a s (upd v i y) u := by
  have h' := h.below hb
  refine ⟨h'.b, h.k0, fun j hj => ?_, h'.o, h'.d, h'.sa⟩
  rcases Nat.decEq j i with hne | heq
  · rw [upd_ne _ _ hne] at hj ⊢; exact h'.r j hj
  · subst heq; rw [upd_same]; exact hy
theorem BZ.alloc (h : BZ x k w0 w c a s v u) (i : Nat) (hi : a i = false) : BZ x k w0 (w.alloc (zbox 0 none 0 0)) c (upd a i true) s v (upd u i (.pointer (some ⟨w.heap.size, 0, none⟩))) := by
  have hb : Below w.heap.size w (w.alloc (zbox 0 none 0 0)) := (Below.refl _ _).alloc (Nat.le_refl _) _
  have h' := h.below hb
  have hold : ∀ j, a j = true → u j ≠ .pointer (some ⟨w.heap.size, 0, none⟩) := fun j hj he => by
    obtain ⟨g, s', A, l, c, z, h1, h2, h3, h4⟩ := h.o j hj
    rw [h1] at he
    simp only [Value.pointer.injEq, Option.some.injEq, Addr.mk.injEq] at he
    have := h3.lt
    omega
  refine ⟨h'.b, h.k0, h'.r, fun j hj => ?_, fun j k hjk hj hk => ?_, fun j hj => ?_⟩
  · rcases Nat.decEq j i with hne | heq
    · rw [upd_ne _ _ hne] at hj ⊢; exact h'.o j hj
    · subst heq; rw [upd_same]
      refine ⟨_, _, _, _, _, _, rfl, h.size, ZBox.nil w, fun hs => ?_⟩
      rw [h.sa j hs] at hi; cases hi
  · rcases Nat.decEq j i with hne | heq
    · rw [upd_ne _ _ hne] at hj ⊢
      rcases Nat.decEq k i with hne2 | heq2
      · rw [upd_ne _ _ hne2] at hk ⊢; exact h.d j k hjk hj hk
      · subst heq2; rw [upd_same]; exact hold j hj
    · subst heq; rw [upd_same]
      rw [upd_ne _ _ (Ne.symm hjk)] at hk ⊢
      exact fun e => hold k hk e.symm
  · rcases Nat.decEq j i with hne | heq
    · rw [upd_ne _ _ hne]; exact h.sa j hj
    · subst heq; exact upd_same _ _ _
theorem BZ.store (h : BZ x k w0 w c a s v u) (i : Nat) (ha : a i = true) {g : Nat} (hu : u i = .pointer (some ⟨g, 0, none⟩)) {s' : Int} {A : Option Addr} {l cc : Nat} (hz : ZAt w s' A l cc (x i)) :
    BZ x k w0 ((w.setCell ⟨g, 0, none⟩ (.int .i64 s')).setCell ⟨g, 1, none⟩ (.slice A l cc)) c a (upd s i true) v u := by
  obtain ⟨g1, s1, A1, l1, c1, z1, e1, k1, R1, _⟩ := h.o i ha
  obtain rfl : g1 = g := by
    rw [hu] at e1
    simp only [Value.pointer.injEq, Option.some.injEq, Addr.mk.injEq] at e1
    exact e1.1.symm
  refine ⟨(h.b.setCell (p := ⟨g1, 0, none⟩) k1 _).setCell (p := ⟨g1, 1, none⟩) k1 _, h.k0, fun j hj => ?_, fun j hj => ?_, h.d, fun j hj => ?_⟩
  · obtain ⟨s2, A2, l2, c2, e2, z2⟩ := h.r j hj
    exact ⟨s2, A2, l2, c2, e2, z2.put R1 _ _⟩
  · rcases Nat.decEq j i with hne | heq
    · rw [upd_ne _ _ hne]
      obtain ⟨g2, s2, A2, l2, c2, z2, e2, k2, R2, f2⟩ := h.o j hj
      have hg : g2 ≠ g1 := fun e => h.d j i hne hj ha (by rw [e2, hu, e])
      exact ⟨g2, s2, A2, l2, c2, z2, e2, k2, R2.far R1 hg _ _, f2⟩
    · subst heq; rw [upd_same]
      exact ⟨g1, s', A, l, cc, x j, hu, k1, R1.put hz, fun _ => rfl⟩
  · rcases Nat.decEq j i with hne | heq
    · rw [upd_ne _ _ hne] at hj; exact h.sa j hj
    · subst heq; exact ha
end
end Go.Proofs.Ytgblfpkfapmlnaa
