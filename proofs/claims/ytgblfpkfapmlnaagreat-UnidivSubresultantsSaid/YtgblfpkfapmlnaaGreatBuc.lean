/- The walks of cylinderref03.Quo and Abs. -/
import Derived.Test.YtgblfpkfapmlnaaGreatInv
import Derived.Test.YtgblfpkfapmlnaaGreatBub
/- A region that makes or fills several numbers of the reference, in any order; the walks of cylinderref03.Quo, Abs. -/
namespace Go.Proofs.YtgblfpkfapmlnaaGreat
open Go Go.RowKit

/-- a number of the reference lies in block g -/
structure ZBox (w : World) (g : Nat) (s : Int) (A : Option Addr) (l c : Nat) (z : Int) : Prop where
  blk : Blk w g 50 #[.int .i64 s, .slice A l c]
  hz : ZAt w s A l c z
section
variable {w w' : World} {g g' : Nat} {s s' : Int} {A A' : Option Addr} {l c l' c' : Nat} {z z' : Int}
theorem ZBox.lt (h : ZBox w g s A l c z) : g < w.heap.size := Blk.lt (t := 50) h.blk
theorem ZBox.c0 (h : ZBox w g s A l c z) : w.cell? ⟨g, 0, none⟩ = some (.int .i64 s) := (Blk.cell (t := 50) h.blk 0).trans rfl
theorem ZBox.c1 (h : ZBox w g s A l c z) : w.cell? ⟨g, 1, none⟩ = some (.slice A l c) := (Blk.cell (t := 50) h.blk 1).trans rfl
theorem ZBox.f0 (h : ZBox w g s A l c z) : w.frozen? ⟨g, 0, none⟩ = false := Blk.frozen (t := 50) h.blk 0
theorem ZBox.f1 (h : ZBox w g s A l c z) : w.frozen? ⟨g, 1, none⟩ = false := Blk.frozen (t := 50) h.blk 1
theorem ZBox.move (h : ZBox w g s A l c z) (hb : Below w.heap.size w w') : ZBox w' g s A l c z := ⟨Blk.below (t := 50) h.blk hb h.lt, h.hz.below hb⟩
theorem ZBox.nil (w : World) : ZBox (w.alloc (zbox 0 none 0 0)) w.heap.size 0 none 0 0 0 := ⟨Blk.new _ _ _, ZAt.zero _ _ _⟩
theorem ZBox.make (h : ZAt w s A l c z) : ZBox (w.alloc (zbox s A l c)) w.heap.size s A l c z := ⟨Blk.new _ _ _, h.below ((Below.refl _ _).alloc (Nat.le_refl _) _)⟩
/-- the bits of a number stay when another number's block is written -/
theorem ZAt.box {cs : Array Value} (h : ZAt w s A l c z) (hb : Blk w g 50 cs) (i : Nat) (u : Value) : ZAt (w.setCell ⟨g, i, none⟩ u) s A l c z := by
  rcases h.typ with h0 | ⟨b, off, ds, hA, hk⟩
  · subst h0
    exact ⟨h.sign, ⟨h.bits.length, h.bits.cap, .inl rfl⟩, .inl rfl⟩
  · have hne : b ≠ g := by
      intro e
      subst e
      unfold Blk at hk hb
      rw [hk] at hb
      cases hb
    have hk2 : Blk (w.setCell ⟨g, i, none⟩ u) b 3 ds := (heap_setCell_other w ⟨g, i, none⟩ b u hne).trans hk
    refine ⟨h.sign, ⟨h.bits.length, h.bits.cap, ?_⟩, .inr ⟨b, off, ds, hA, hk2⟩⟩
    rcases Nat.eq_zero_or_pos l with hl | hl
    · exact .inl hl
    · obtain ⟨b2, off2, hA2, hlt, hc⟩ := h.bits.at_ hl
      rw [hA] at hA2
      cases hA2
      refine .inr ⟨b, off, hA, Blk.lt hk2, fun j hj => ?_⟩
      rw [Blk.cell hk2, ← Blk.cell hk]
      exact hc j hj
theorem ZBox.put (h : ZBox w g s A l c z) (hz : ZAt w s' A' l' c' z') : ZBox ((w.setCell ⟨g, 0, none⟩ (.int .i64 s')).setCell ⟨g, 1, none⟩ (.slice A' l' c')) g s' A' l' c' z' := by
  have h1 := Blk.set_ (t := 50) h.blk 0 (.int .i64 s')
  have h2 := Blk.set_ (t := 50) h1 1 (.slice A' l' c')
  exact ⟨h2, (hz.box h.blk 0 _).box h1 1 _⟩
theorem ZAt.put (hz : ZAt w s' A' l' c' z') (h : ZBox w g s A l c z) (u v : Value) : ZAt ((w.setCell ⟨g, 0, none⟩ u).setCell ⟨g, 1, none⟩ v) s' A' l' c' z' :=
  (hz.box h.blk 0 _).box (Blk.set_ (t := 50) h.blk 0 u) 1 _
theorem ZBox.far (h : ZBox w g s A l c z) (h' : ZBox w g' s' A' l' c' z') (hg : g ≠ g') (u v : Value) : ZBox ((w.setCell ⟨g', 0, none⟩ u).setCell ⟨g', 1, none⟩ v) g s A l c z :=
  ⟨Blk.far (t := 50) (Blk.far (t := 50) h.blk hg _) hg _, h.hz.put h' u v⟩
end

/-- a value that holds the number x -/
def ZVal (v : Value) (x : Int) (w : World) : Prop := ∃ s A l c, v = .agg #[.int .i64 s, .slice A l c] ∧ ZAt w s A l c x
/-- an own variable; where s holds, it holds the number x -/
def OwnB (u : Value) (s : Bool) (x : Int) (k : Nat) (w : World) : Prop := ∃ g s' A l c z, u = .pointer (some ⟨g, 0, none⟩) ∧ k ≤ g ∧ ZBox w g s' A l c z ∧ (s = true → z = x)
theorem ZVal.below {v : Value} {x : Int} {w w' : World} (h : ZVal v x w) (hb : Below w.heap.size w w') : ZVal v x w' := by
  obtain ⟨s, A, l, c, h1, h2⟩ := h
  exact ⟨s, A, l, c, h1, h2.below hb⟩
theorem OwnB.below {u : Value} {s : Bool} {x : Int} {k : Nat} {w w' : World} (h : OwnB u s x k w) (hb : Below w.heap.size w w') : OwnB u s x k w' := by
  obtain ⟨g, s', A, l, c, z, h1, h2, h3, h4⟩ := h
  exact ⟨g, s', A, l, c, z, h1, h2, h3.move hb, h4⟩

/-- the state of such a region: which calls (c), variables (a), stores (s) have come up; k: the first block that is the function's own -/
structure BZ (x : Nat → Int) (k : Nat) (w0 w : World) (c a s : Nat → Bool) (v u : Nat → Value) : Prop where
  b : Below k w0 w
  k0 : k ≤ w0.heap.size
  r : ∀ i, c i = true → ZVal (v i) (x i) w
  o : ∀ i, a i = true → OwnB (u i) (s i) (x i) k w
  d : ∀ i j, i ≠ j → a i = true → a j = true → u i ≠ u j
  sa : ∀ i, s i = true → a i = true
section
variable {x : Nat → Int} {k : Nat} {w0 w w' : World} {c a s : Nat → Bool} {v u : Nat → Value}
theorem BZ.size (h : BZ x k w0 w c a s v u) : k ≤ w.heap.size := Nat.le_trans h.k0 h.b.size
theorem BZ.below (h : BZ x k w0 w c a s v u) (hb : Below w.heap.size w w') : BZ x k w0 w' c a s v u :=
  ⟨h.b.trans (hb.mono h.size), h.k0, fun i hi => (h.r i hi).below hb, fun i hi => (h.o i hi).below hb, h.d, h.sa⟩
theorem BZ.call (h : BZ x k w0 w c a s v u) (hb : Below w.heap.size w w') (i : Nat) {y : Value} (hy : ZVal y (x i) w') : BZ x k w0 w' (upd c i true) a s (upd v i y) u := by
  have h' := h.below hb
  refine ⟨h'.b, h.k0, fun j hj => ?_, h'.o, h'.d, h'.sa⟩
  rcases Nat.decEq j i with hne | heq
  · rw [upd_ne _ _ hne] at hj ⊢; exact h'.r j hj
  · subst heq; rw [upd_same]; exact hy
theorem BZ.alloc (h : BZ x k w0 w c a s v u) (i : Nat) (hi : a i = false) : BZ x k w0 (w.alloc (zbox 0 none 0 0)) c (upd a i true) s v (upd u i (.pointer (some ⟨w.heap.size, 0, none⟩))) := by
  have hb : Below w.heap.size w (w.alloc (zbox 0 none 0 0)) := (Below.refl _ _).alloc (Nat.le_refl _) _
  have h' := h.below hb
  have hold : ∀ j, a j = true → u j ≠ .pointer (some ⟨w.heap.size, 0, none⟩) := fun j hj he => by
    obtain ⟨g, s', A, l, c, z, h1, h2, h3, h4⟩ := h.o j hj
    rw [h1] at he
    simp only [Value.pointer.injEq, Option.some.injEq, Addr.mk.injEq] at he
    have := h3.lt
    omega
  refine ⟨h'.b, h.k0, h'.r, fun j hj => ?_, fun j k hjk hj hk => ?_, fun j hj => ?_⟩
  · rcases Nat.decEq j i with hne | heq
    · rw [upd_ne _ _ hne] at hj ⊢; exact h'.o j hj
    · subst heq; rw [upd_same]
      refine ⟨_, _, _, _, _, _, rfl, h.size, ZBox.nil w, fun hs => ?_⟩
      rw [h.sa j hs] at hi; cases hi
  · rcases Nat.decEq j i with hne | heq
    · rw [upd_ne _ _ hne] at hj ⊢
      rcases Nat.decEq k i with hne2 | heq2
      · rw [upd_ne _ _ hne2] at hk ⊢; exact h.d j k hjk hj hk
      · subst heq2; rw [upd_same]; exact hold j hj
    · subst heq; rw [upd_same]
      rw [upd_ne _ _ (Ne.symm hjk)] at hk ⊢
      exact fun e => hold k hk e.symm
  · rcases Nat.decEq j i with hne | heq
    · rw [upd_ne _ _ hne]; exact h.sa j hj
    · subst heq; exact upd_same _ _ _
theorem BZ.store (h : BZ x k w0 w c a s v u) (i : Nat) (ha : a i = true) {g : Nat} (hu : u i = .pointer (some ⟨g, 0, none⟩)) {s' : Int} {A : Option Addr} {l cc : Nat} (hz : ZAt w s' A l cc (x i)) :
    BZ x k w0 ((w.setCell ⟨g, 0, none⟩ (.int .i64 s')).setCell ⟨g, 1, none⟩ (.slice A l cc)) c a (upd s i true) v u := by
  obtain ⟨g1, s1, A1, l1, c1, z1, e1, k1, R1, _⟩ := h.o i ha
  obtain rfl : g1 = g := by
    rw [hu] at e1
    simp only [Value.pointer.injEq, Option.some.injEq, Addr.mk.injEq] at e1
    exact e1.1.symm
  refine ⟨(h.b.setCell (p := ⟨g1, 0, none⟩) k1 _).setCell (p := ⟨g1, 1, none⟩) k1 _, h.k0, fun j hj => ?_, fun j hj => ?_, h.d, fun j hj => ?_⟩
  · obtain ⟨s2, A2, l2, c2, e2, z2⟩ := h.r j hj
    exact ⟨s2, A2, l2, c2, e2, z2.put R1 _ _⟩
  · rcases Nat.decEq j i with hne | heq
    · rw [upd_ne _ _ hne]
      obtain ⟨g2, s2, A2, l2, c2, z2, e2, k2, R2, f2⟩ := h.o j hj
      have hg : g2 ≠ g1 := fun e => h.d j i hne hj ha (by rw [e2, hu, e])
      exact ⟨g2, s2, A2, l2, c2, z2, e2, k2, R2.far R1 hg _ _, f2⟩
    · subst heq; rw [upd_same]
      exact ⟨g1, s', A, l, cc, x j, hu, k1, R1.put hz, fun _ => rfl⟩
  · rcases Nat.decEq j i with hne | heq
    · rw [upd_ne _ _ hne] at hj; exact h.sa j hj
    · subst heq; exact ha
end
end Go.Proofs.YtgblfpkfapmlnaaGreat

/- The walks of cylinderref03.Quo and Abs. -/
namespace Go.Proofs.YtgblfpkfapmlnaaGreat
open Go.RowKit

theorem tdiv_sgn (a b : Int) : sgn (decide (sg a * sg b < 0)) (a.natAbs / b.natAbs) = a.tdiv b := by
  rcases sg_cases a with ⟨h1, e1⟩ | ⟨h1, e1⟩ | ⟨h1, e1⟩ <;> rcases sg_cases b with ⟨h2, e2⟩ | ⟨h2, e2⟩ | ⟨h2, e2⟩ <;> rw [e1, e2]
  · obtain ⟨x, rfl⟩ : ∃ x : Nat, a = -(x : Int) := ⟨a.natAbs, by omega⟩
    obtain ⟨y, rfl⟩ : ∃ y : Nat, b = -(y : Int) := ⟨b.natAbs, by omega⟩
    rw [Int.neg_tdiv, Int.tdiv_neg, Int.neg_neg, Int.natAbs_neg, Int.natAbs_neg]; rfl
  · subst h2; simp [sgn]
  · obtain ⟨x, rfl⟩ : ∃ x : Nat, a = -(x : Int) := ⟨a.natAbs, by omega⟩
    obtain ⟨y, rfl⟩ : ∃ y : Nat, b = (y : Int) := ⟨b.natAbs, by omega⟩
    rw [Int.neg_tdiv, Int.natAbs_neg]; rfl
  · subst h1; simp [sgn]
  · subst h1; simp [sgn]
  · subst h1; simp [sgn]
  · obtain ⟨x, rfl⟩ : ∃ x : Nat, a = (x : Int) := ⟨a.natAbs, by omega⟩
    obtain ⟨y, rfl⟩ : ∃ y : Nat, b = -(y : Int) := ⟨b.natAbs, by omega⟩
    rw [Int.tdiv_neg, Int.natAbs_neg]; rfl
  · subst h2; simp [sgn]
  · obtain ⟨x, rfl⟩ : ∃ x : Nat, a = (x : Int) := ⟨a.natAbs, by omega⟩
    obtain ⟨y, rfl⟩ : ∃ y : Nat, b = (y : Int) := ⟨b.natAbs, by omega⟩
    rfl
theorem tmod_sgn (a b : Int) : sgn (decide (sg a < 0)) (a.natAbs % b.natAbs) = a.tmod b := by
  rcases sg_cases a with ⟨h1, e1⟩ | ⟨h1, e1⟩ | ⟨h1, e1⟩ <;> rw [e1]
  · obtain ⟨x, rfl⟩ : ∃ x : Nat, a = -(x : Int) := ⟨a.natAbs, by omega⟩
    rw [Int.neg_tmod, Int.natAbs_neg]
    show -((x % b.natAbs : Nat) : Int) = _
    rcases Int.natAbs_eq b with h | h
    · conv => rhs; rw [h]
      rfl
    · conv => rhs; rw [h, Int.tmod_neg]
      rfl
  · subst h1; simp [sgn]
  · obtain ⟨x, rfl⟩ : ∃ x : Nat, a = (x : Int) := ⟨a.natAbs, by omega⟩
    show ((x % b.natAbs : Nat) : Int) = _
    rcases Int.natAbs_eq b with h | h
    · conv => rhs; rw [h]
      rfl
    · conv => rhs; rw [h, Int.tmod_neg]
      rfl

/-- both results -/
def QRet (w : World) (q r : Int) (e : Ending) (w' : World) : Prop := ∃ s A l c s' A' l' c', e = .returned (.tuple #[.agg #[.int .i64 s, .slice A l c], .agg #[.int .i64 s', .slice A' l' c']]) ∧ ZAt w' s A l c q ∧ ZAt w' s' A' l' c' r ∧ Below w.heap.size w w'


set_option maxRecDepth 100000 in
set_option maxHeartbeats 4000000 in
theorem zquo_any (p : Int) (A : Option Addr) (la ca : Nat) (a : Int) (q : Int) (B : Option Addr) (lb cb : Nat) (b : Int) (w : World) (ha : ZAt w p A la ca a) (hb : ZAt w q B lb cb b) (hma : la ≤ 800000) (hmb : lb ≤ 800000) (hb0 : b ≠ 0) :
    Calls Tryz.prog 35 #[.agg #[.int .i64 p, .slice A la ca], .agg #[.int .i64 q, .slice B lb cb]] w (QRet w (a.tdiv b) (a.tmod b)) := by
  have hW : Below w.heap.size w ((((w.alloc (zbox p A la ca)).alloc (zbox q B lb cb)).alloc (zbox 0 none 0 0)).alloc (zbox 0 none 0 0)) := below_four w _ _ _ _ (Nat.le_refl _)
  have hA0 := ha.bits.below hW
  have hB0 := hb.bits.below hW
  have hsg := sg_mul_bd a b
  have hms := tdiv_sgn a b
  have hmr := tmod_sgn a b
  have hla := ha.len
  have hlb := hb.len
  rw [← ha.sign, ← hb.sign] at hsg hms
  rw [← ha.sign] at hmr
  obtain ⟨m, hm⟩ : ∃ m, m = p * q := ⟨_, rfl⟩
  rw [← hm] at hsg hms
  have i1 : p * q = m := hm.symm
  have i2 : IntKind.i64.wrap m = m := IntWalk.i64_in _ (by omega)
  have Hms := Lib.hid hms
  have Hmr := Lib.hid hmr
  have Hq := Lib.hid (show bln (a.natAbs / b.natAbs) ≤ 1000000 by have := bln_mono (Nat.div_le_self a.natAbs b.natAbs); omega)
  have Hr := Lib.hid (show bln (a.natAbs % b.natAbs) ≤ 1000000 by have := bln_mono (Nat.mod_le a.natAbs b.natAbs); omega)
  have HW := Lib.hid hW
  have HA := Lib.hid hA0
  have HB := Lib.hid hB0
  have hbn : 0 < b.natAbs := by omega
  clear ha hb hW hms hmr hm hsg hla hlb hA0 hB0 hb0
  go_enter Tryz.func35, Tryz.ntmps35
  go_wp2_with fail
  refine (bdivmod_any _ _ _ a.natAbs _ _ _ b.natAbs _ HA.out HB.out hma hmb hbn).mono ?_
  rintro e w1 ⟨A1, l1, c1, A2, l2, c2, rfl, h1, ht1, h2, ht2, hb1⟩
  have hsz := hb1.size
  simp only [World.size_alloc] at hsz
  have hX0 := ZBox.nil ((w.alloc (zbox p A la ca)).alloc (zbox q B lb cb))
  have hX1 := (hX0.move (w' := (((w.alloc (zbox p A la ca)).alloc (zbox q B lb cb)).alloc (zbox 0 none 0 0)).alloc (zbox 0 none 0 0)) (by (repeat (first | exact Below.refl _ _ | refine Below.drew ?_ | refine Below.alloc ?_ (by first | (simp; done) | (simp; omega) | omega) _ | refine Below.setCell ?_ (by first | (simp; done) | (simp; omega) | omega) _)))).move hb1
  have hX2 := (ZBox.nil (((w.alloc (zbox p A la ca)).alloc (zbox q B lb cb)).alloc (zbox 0 none 0 0))).move hb1
  simp only [World.size_alloc] at hX1 hX2
  have HX1 := Lib.hid hX1
  have HX2 := Lib.hid hX2
  have H1 := Lib.hid h1
  have H2 := Lib.hid h2
  have T1 := Lib.hid ht1
  have T2 := Lib.hid ht2
  obtain ⟨hc, hf⟩ := bcell hb1
  have Hb1 := Lib.hid (HW.out.trans (hb1.mono HW.out.size))
  have e0 : w1.cell? ⟨w.heap.size, 0, none⟩ = some (.int .i64 p) := by rw [hc _ _ (by first | (simp; done) | (simp; omega) | omega)]; go_simp
  have e1 : w1.cell? ⟨w.heap.size + 1, 0, none⟩ = some (.int .i64 q) := by rw [hc _ _ (by first | (simp; done) | (simp; omega) | omega)]; go_simp
  have L1 : l1 ≤ 1000000 := by have := h1.length; rw [bts_length] at this; have := Hq.out; omega
  have L2 : l2 ≤ 1000000 := by have := h2.length; rw [bts_length] at this; have := Hr.out; omega
  clear h1 h2 ht1 ht2 hb1 hc hf hX0 hX1 hX2 HW HA HB
  go_wp2_with fail
  refine wp_region_last (S := fun w' => w'.cell? ⟨w.heap.size, 0, none⟩ = some (.int .i64 p) ∧ w'.cell? ⟨w.heap.size + 1, 0, none⟩ = some (.int .i64 q)) (by kernel_rfl) (by kernel_rfl) (by (try dsimp only); go_keep) (fun hHeld => ?_)
  simp only [List.pop_toArray, List.dropLast]
  (refine take_at (i := 0) (oi := _) (v := ?_) rfl rfl (by kernel_rfl) (by kernel_rfl) (by kernel_rfl) (fun _ _ _ h => h) (Or.inl ⟨by rfl, ?_⟩) (by assumption) ?_; rotate_left; (focus (intro w hSw; (try dsimp only at hSw); go_simp; (try with_reducible rfl))); (simp only [put_lit, List.set]))
  (refine take_at (i := 1) (oi := _) (v := ?_) rfl rfl (by kernel_rfl) (by kernel_rfl) (by kernel_rfl) (fun _ _ _ h => h) (Or.inl ⟨by rfl, ?_⟩) (by assumption) ?_; rotate_left; (focus (intro w hSw; (try dsimp only at hSw); go_simp; (try with_reducible rfl))); (simp only [put_lit, List.set]))
  (refine take_at (i := 2) (oi := _) (v := ?_) rfl rfl (by kernel_rfl) (by kernel_rfl) (by kernel_rfl) (fun _ _ _ h => h) (Or.inl ⟨by rfl, ?_⟩) (by assumption) ?_; rotate_left; (focus (intro w hSw; (try dsimp only at hSw); go_simp; (try with_reducible rfl))); (simp only [put_lit, List.set]))
  (refine take_at (i := 3) (oi := _) (v := ?_) rfl rfl (by kernel_rfl) (by kernel_rfl) (by kernel_rfl) (fun _ _ _ h => h) (Or.inl ⟨by rfl, ?_⟩) (by assumption) ?_; rotate_left; (focus (intro w hSw; (try dsimp only at hSw); go_simp; (try with_reducible rfl))); (simp only [put_lit, List.set]))
  (refine take_at (i := 4) (oi := _) (v := ?_) rfl rfl (by kernel_rfl) (by kernel_rfl) (by kernel_rfl) (fun _ _ _ h => h) (Or.inl ⟨by rfl, ?_⟩) (by assumption) ?_; rotate_left; (focus (intro w hSw; (try dsimp only at hSw); go_simp; (try with_reducible rfl))); (simp only [put_lit, List.set]))
  (refine take_at (i := 5) (oi := _) (v := ?_) rfl rfl (by kernel_rfl) (by kernel_rfl) (by kernel_rfl) (fun _ _ _ h => h) (Or.inl ⟨by rfl, ?_⟩) (by assumption) ?_; rotate_left; (focus (intro w hSw; (try dsimp only at hSw); go_simp; (try with_reducible rfl))); (simp only [put_lit, List.set]))
  (refine take_at (i := 6) (oi := _) (v := ?_) rfl rfl (by kernel_rfl) (by kernel_rfl) (by kernel_rfl) (fun _ _ _ h => h) (Or.inl ⟨by rfl, ?_⟩) (by assumption) ?_; rotate_left; (focus (intro w hSw; (try dsimp only at hSw); go_simp; (try with_reducible rfl))); (simp only [put_lit, List.set]))
  (refine take_at (i := 8) (oi := _) (v := ?_) rfl rfl (by kernel_rfl) (by kernel_rfl) (by kernel_rfl) (fun _ _ _ h => h) (Or.inl ⟨by rfl, ?_⟩) (by assumption) ?_; rotate_left; (focus (intro w hSw; (try dsimp only at hSw); go_simp; (try with_reducible rfl))); (simp only [put_lit, List.set]))
  (refine take_at (i := 9) (oi := _) (v := ?_) rfl rfl (by kernel_rfl) (by kernel_rfl) (by kernel_rfl) (fun _ _ _ h => h) (Or.inl ⟨by rfl, ?_⟩) (by assumption) ?_; rotate_left; (focus (intro w hSw; (try dsimp only at hSw); go_simp; (try with_reducible rfl))); (simp only [put_lit, List.set]))
  (refine take_at (i := 10) (oi := _) (v := ?_) rfl rfl (by kernel_rfl) (by kernel_rfl) (by kernel_rfl) (fun _ _ _ h => h) (Or.inl ⟨by rfl, ?_⟩) (by assumption) ?_; rotate_left; (focus (intro w hSw; (try dsimp only at hSw); go_simp; (try with_reducible rfl))); (simp only [put_lit, List.set]))
  (refine take_at (i := 11) (oi := _) (v := ?_) rfl rfl (by kernel_rfl) (by kernel_rfl) (by kernel_rfl) (fun _ _ _ h => h) (Or.inl ⟨by rfl, ?_⟩) (by assumption) ?_; rotate_left; (focus (intro w hSw; (try dsimp only at hSw); go_simp; (try with_reducible rfl))); (simp only [put_lit, List.set]))
  refine wpAnyH_ready (rs := [7]) (by kernel_rfl) (by simp) ?_
  refine AllReadyH.cons rfl (fun K hK => ?_) AllReadyH.nil; go_simp
  refine (zmake_any (decide (m < 0)) _ _ _ (a.natAbs / b.natAbs) _ (H1.out.below (by (repeat (first | exact Below.refl _ _ | refine Below.drew ?_ | refine Below.alloc ?_ (by first | (simp; done) | (simp; omega) | omega) _ | refine Below.setCell ?_ (by first | (simp; done) | (simp; omega) | omega) _)))) (T1.out.below (by (repeat (first | exact Below.refl _ _ | refine Below.drew ?_ | refine Below.alloc ?_ (by first | (simp; done) | (simp; omega) | omega) _ | refine Below.setCell ?_ (by first | (simp; done) | (simp; omega) | omega) _)))) L1).mono ?_
  rintro e w3 ⟨s3, A3, l3, c3, rfl, h3, hb3⟩
  rw [Hms.out] at h3
  obtain ⟨hcx, hfx⟩ := bcellS hb3
  have hb4 : Below w1.heap.size w1 w3 := Below.trans (by (repeat (first | exact Below.refl _ _ | refine Below.drew ?_ | refine Below.alloc ?_ (by first | (simp; done) | (simp; omega) | omega) _ | refine Below.setCell ?_ (by first | (simp; done) | (simp; omega) | omega) _))) (hb3.mono (by simp <;> omega))
  have H3 := Lib.hid h3
  have H2b := Lib.hid (H2.out.below hb4)
  have T2b := Lib.hid (T2.out.below hb4)
  have X1 := Lib.hid (HX1.out.move hb4)
  have X2 := Lib.hid (HX2.out.move hb4)
  have Hb3 := Lib.hid (Hb1.out.trans (hb4.mono (by omega)))
  have hs3 := hb4.size
  refine hK.out _ _ ?_ (fun _ => ?_)
  · ((try dsimp only); repeat' apply And.intro) <;> (rw [hcx _ (by go_simp)]; go_simp)
  clear hHeld hK K hcx hfx; rename_i hHeld
  clear h3 hb3 hb4 HX1 HX2 H1 T1 H2 T2 Hb1
  refine wpAnyH_ready (rs := [12]) (by kernel_rfl) (by simp) ?_
  refine AllReadyH.cons rfl (fun K hK => ?_) AllReadyH.nil; go_simp
  refine (zmake_any (decide (p < 0)) _ _ _ (a.natAbs % b.natAbs) _ (H2b.out.below (by (repeat (first | exact Below.refl _ _ | refine Below.drew ?_ | refine Below.alloc ?_ (by first | (simp; done) | (simp; omega) | omega) _ | refine Below.setCell ?_ (by first | (simp; done) | (simp; omega) | omega) _)))) (T2b.out.below (by (repeat (first | exact Below.refl _ _ | refine Below.drew ?_ | refine Below.alloc ?_ (by first | (simp; done) | (simp; omega) | omega) _ | refine Below.setCell ?_ (by first | (simp; done) | (simp; omega) | omega) _)))) L2).mono ?_
  rintro e w4 ⟨s4, A4, l4, c4, rfl, h4, hb4⟩
  rw [Hmr.out] at h4
  obtain ⟨hcx, hfx⟩ := bcellS hb4
  have hb5 : Below w3.heap.size w3 w4 := Below.trans (by (repeat (first | exact Below.refl _ _ | refine Below.drew ?_ | refine Below.alloc ?_ (by first | (simp; done) | (simp; omega) | omega) _ | refine Below.setCell ?_ (by first | (simp; done) | (simp; omega) | omega) _))) (hb4.mono (by simp <;> omega))
  have H4 := Lib.hid h4
  have H3b := Lib.hid (H3.out.below hb5)
  have X1b := Lib.hid (X1.out.move hb5)
  have X2b := Lib.hid (X2.out.move hb5)
  have Hb4 := Lib.hid (Hb3.out.trans (hb5.mono (by omega)))
  have hs4 := hb5.size
  refine hK.out _ _ ?_ (fun _ => ?_)
  · ((try dsimp only); repeat' apply And.intro) <;> (rw [hcx _ (by go_simp)]; go_simp)
  clear hHeld hK K hcx hfx; rename_i hHeld
  clear h4 hb4 hb5 H3 X1 X2 Hb3 H2b T2b e0 e1
  have k0 := X1b.out.c0
  have k1 := X1b.out.c1
  have k2 := X1b.out.f0
  have k3 := X1b.out.f1
  refine wpAnyH_ready (rs := [13]) (by kernel_rfl) (by simp) ?_
  refine AllReadyH.cons rfl (fun K hK => ?_) AllReadyH.nil
  go_simp
  refine hK.out _ _ ?_ (fun _ => ?_)
  · exact ⟨by rw [World.cell?_setCell_other _ _ _ _ (by intro e; injection e with e _; omega), World.cell?_setCell_other _ _ _ _ (by intro e; injection e with e _; omega)]; exact hHeld.1, by rw [World.cell?_setCell_other _ _ _ _ (by intro e; injection e with e _; omega), World.cell?_setCell_other _ _ _ _ (by intro e; injection e with e _; omega)]; exact hHeld.2⟩
  clear hHeld hK K
  rename_i hHeld
  refine wpAnyH_done (by kernel_rfl) (lastQ_list rfl ?_) _
  clear hHeld
  have X1c := Lib.hid (X1b.out.put H3b.out)
  have H4c := Lib.hid (H4.out.put X1b.out (.int .i64 s3) (.slice A3 l3 c3))
  have X2c := Lib.hid (X2b.out.far X1b.out (by omega) (.int .i64 s3) (.slice A3 l3 c3))
  have Hb5 := Lib.hid ((Hb4.out.setCell (p := ⟨w.heap.size + 1 + 1, 0, none⟩) (by first | (simp; done) | (simp; omega) | omega) (.int .i64 s3)).setCell (p := ⟨w.heap.size + 1 + 1, 1, none⟩) (by first | (simp; done) | (simp; omega) | omega) (.slice A3 l3 c3))
  obtain ⟨w5, hw5⟩ : ∃ w5, w5 = (w4.setCell ⟨w.heap.size + 1 + 1, 0, none⟩ (.int .i64 s3)).setCell ⟨w.heap.size + 1 + 1, 1, none⟩ (.slice A3 l3 c3) := ⟨_, rfl⟩
  rw [← hw5] at X1c H4c X2c Hb5 ⊢
  clear hw5 k0 k1 k2 k3 X1b X2b H3b H4 Hb4
  have j0 := X2c.out.c0
  have j1 := X2c.out.c1
  have j2 := X2c.out.f0
  have j3 := X2c.out.f1
  have i0 := X1c.out.c0
  have i3 := X1c.out.c1
  go_wp2
  refine bodyPost_ret (v := .tuple #[.agg #[.int .i64 s3, .slice A3 l3 c3], .agg #[.int .i64 s4, .slice A4 l4 c4]]) (by simp [results, Tryz.results35, go_sem, i0, i3, j0, j1]) rfl ⟨_, _, _, _, _, _, _, _, rfl, X1c.out.hz.put X2c.out _ _, H4c.out.put X2c.out _ _, (Hb5.out.setCell (p := ⟨w.heap.size + 1 + 1 + 1, 0, none⟩) (by first | (simp; done) | (simp; omega) | omega) _).setCell (p := ⟨w.heap.size + 1 + 1 + 1, 1, none⟩) (by first | (simp; done) | (simp; omega) | omega) _⟩
end Go.Proofs.YtgblfpkfapmlnaaGreat
