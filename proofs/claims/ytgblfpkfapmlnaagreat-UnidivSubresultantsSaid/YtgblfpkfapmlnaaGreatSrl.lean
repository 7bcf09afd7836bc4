/- A list of polynomials of the reference in a row of its own: append, and stores to a number beside it. -/
import Derived.Test.YtgblfpkfapmlnaaGreatApd
import Derived.Test.YtgblfpkfapmlnaaGreatBuc
import Derived.Test.YtgblfpkfapmlnaaGreatBtl
namespace Go.Proofs.YtgblfpkfapmlnaaGreat
open Go Go.RowKit

def ZNe (A : Option Addr) (l gp : Nat) : Prop := ∀ b off, 0 < l → A = some ⟨b, off, none⟩ → b ≠ gp
/-- the bits of a number stay when a block of another kind is written -/
theorem ZAt.far {w : World} {g : Nat} {t : TypeId} {cs : Array Value} {s : Int} {A : Option Addr} {l c : Nat} {z : Int} (h : ZAt w s A l c z) (ht : t ≠ 3) (hb : Blk w g t cs) (i : Nat) (u : Value) : ZAt (w.setCell ⟨g, i, none⟩ u) s A l c z := by
  rcases h.typ with h0 | ⟨b, off, ds, hA, hk⟩
  · subst h0
    exact ⟨h.sign, ⟨h.bits.length, h.bits.cap, .inl rfl⟩, .inl rfl⟩
  · have hne : b ≠ g := by
      intro e
      subst e
      unfold Blk at hk hb
      rw [hk] at hb
      injection hb with hb
      injection hb with _ hb
      exact ht hb.symm
    have hk2 : Blk (w.setCell ⟨g, i, none⟩ u) b 3 ds := (heap_setCell_other w ⟨g, i, none⟩ b u hne).trans hk
    refine ⟨h.sign, ⟨h.bits.length, h.bits.cap, ?_⟩, .inr ⟨b, off, ds, hA, hk2⟩⟩
    rcases Nat.eq_zero_or_pos l with hl | hl
    · exact .inl hl
    · obtain ⟨b2, off2, hA2, hlt, hc⟩ := h.bits.at_ hl
      rw [hA] at hA2
      cases hA2
      refine .inr ⟨b, off, hA, Blk.lt hk2, fun j hj => ?_⟩
      rw [Blk.cell hk2, ← Blk.cell hk]
      exact hc j hj
theorem ZP.far {w : World} {g : Nat} {t : TypeId} {cs : Array Value} {A : Option Addr} {l c : Nat} {f : List Int} (h : ZP w A l c f) (ht : t ≠ 3) (hb : Blk w g t cs) (hn : ZNe A l g) (i : Nat) (u : Value) : ZP (w.setCell ⟨g, i, none⟩ u) A l c f := by
  refine ⟨h.length, ?_, h.cap⟩
  rcases h.elems with h0 | ⟨b, off, hA, hlt, hc⟩
  · exact .inl h0
  · rcases Nat.eq_zero_or_pos l with h0 | h0
    · exact .inl h0
    · have hne := hn b off h0 hA
      refine .inr ⟨b, off, hA, by simp only [World.size_setCell]; exact hlt, fun j hj => ?_⟩
      obtain ⟨s, Aj, lj, cj, e0, e1, hz⟩ := hc j hj
      have hx : ∀ o, (w.setCell ⟨g, i, none⟩ u).cell? ⟨b, o, none⟩ = w.cell? ⟨b, o, none⟩ := fun o => World.cell?_setCell_other _ _ _ _ (by intro e; injection e with e _; exact hne e.symm)
      exact ⟨s, Aj, lj, cj, (hx _).trans e0, (hx _).trans e1, hz.far ht hb i u⟩
/-- a row of numbers lies in no block that holds slices alone -/
theorem ZP.ne {w : World} {g : Nat} {t : TypeId} {cs : Array Value} {A : Option Addr} {l c : Nat} {f : List Int} (h : ZP w A l c f) (hb : Blk w g t cs) (hs : ∀ j, j < cs.size → ∃ A l c, cs[j]? = some (.slice A l c)) : ZNe A l g := by
  intro b off hl hA e
  subst e
  rcases h.elems with h0 | ⟨b2, off2, hA2, _, hc⟩
  · omega
  · rw [hA] at hA2
    cases hA2
    obtain ⟨s, Aj, lj, cj, e0, _, _⟩ := hc 0 hl
    rw [Blk.cell hb] at e0
    have hlt := (Array.getElem?_eq_some_iff.1 e0).1
    obtain ⟨A3, l3, c3, h3⟩ := hs _ hlt
    rw [h3] at e0
    cases e0

theorem slice_block {g g' n n' c c' : Nat} (h : Value.slice (some ⟨g', 0, none⟩) n' c' = Value.slice (some ⟨g, 0, none⟩) n c) : g' = g := by
  cases h; rfl
/-- the list: its row, its elements; no element's row lies in block gp -/
def OwnP (W : World) (base gp : Nat) (v : Value) (ps : List (List Int)) : Prop := ∃ g cs, v = .slice (some ⟨g, 0, none⟩) ps.length cs.size ∧ base ≤ g ∧ Blk W g 27 cs ∧ ps.length ≤ cs.size ∧ (∀ j, j < cs.size → ∃ A l c, cs[j]? = some (.slice A l c)) ∧
  ∀ j, j < ps.length → ∃ A l c, cs[j]? = some (.slice A l c) ∧ ZP W A l c (ps.getD j []) ∧ ZNe A l gp
section
variable {W W' : World} {base gp : Nat} {v : Value} {ps : List (List Int)}
theorem OwnP.below (h : OwnP W base gp v ps) (hb : Below W.heap.size W W') : OwnP W' base gp v ps := by
  obtain ⟨g, cs, h1, h2, h3, h4, h5, h6⟩ := h
  refine ⟨g, cs, h1, h2, h3.below hb h3.lt, h4, h5, fun j hj => ?_⟩
  obtain ⟨A, l, c, k1, k2, k3⟩ := h6 j hj
  exact ⟨A, l, c, k1, k2.below hb, k3⟩
theorem OwnP.psi (h : OwnP W base gp v ps) {s : Int} {A : Option Addr} {l c : Nat} {z : Int} (hb : ZBox W gp s A l c z) (x y : Value) : OwnP ((W.setCell ⟨gp, 0, none⟩ x).setCell ⟨gp, 1, none⟩ y) base gp v ps := by
  obtain ⟨g, cs, h1, h2, h3, h4, h5, h6⟩ := h
  have hne : g ≠ gp := by
    intro e
    subst e
    have h7 := hb.blk
    unfold Blk at h3 h7
    rw [h3] at h7
    cases h7
  have b1 := Blk.set_ (t := 50) hb.blk 0 x
  refine ⟨g, cs, h1, h2, (h3.far (p := ⟨gp, 0, none⟩) hne x).far (p := ⟨gp, 1, none⟩) hne y, h4, h5, fun j hj => ?_⟩
  obtain ⟨A, l, c, k1, k2, k3⟩ := h6 j hj
  exact ⟨A, l, c, k1, (k2.far (by decide) hb.blk k3 0 x).far (by decide) b1 k3 1 y, k3⟩
/-- no row lies in a block that is new -/
theorem OwnP.new (h : OwnP W base gp v ps) {g' : Nat} (hg : W.heap.size ≤ g') : OwnP W base g' v ps := by
  obtain ⟨g, cs, h1, h2, h3, h4, h5, h6⟩ := h
  refine ⟨g, cs, h1, h2, h3, h4, h5, fun j hj => ?_⟩
  obtain ⟨A, l, c, k1, k2, _⟩ := h6 j hj
  refine ⟨A, l, c, k1, k2, fun b off hl hA => ?_⟩
  rcases k2.elems with h0 | ⟨b2, off2, hA2, hlt, _⟩
  · omega
  · rw [hA] at hA2; cases hA2; omega
/-- a store to another number's block -/
theorem OwnP.side {g' : Nat} (h : OwnP W base gp v ps) (h' : OwnP W base g' v ps) {s : Int} {A : Option Addr} {l c : Nat} {z : Int} (hb : ZBox W g' s A l c z) (x y : Value) : OwnP ((W.setCell ⟨g', 0, none⟩ x).setCell ⟨g', 1, none⟩ y) base gp v ps := by
  obtain ⟨g, cs, h1, h2, h3, h4, h5, h6⟩ := h'.psi hb x y
  obtain ⟨g2, ds, k1, _, k3, _, _, k6⟩ := h
  have hne : g2 ≠ g' := by
    intro e
    subst e
    have h7 := hb.blk
    unfold Blk at k3 h7
    rw [k3] at h7
    cases h7
  have k3 := (k3.far (p := ⟨g', 0, none⟩) hne x).far (p := ⟨g', 1, none⟩) hne y
  have hg : g = g2 := by rw [h1] at k1; exact slice_block k1
  subst hg
  have hcs : cs = ds := by
    unfold Blk at h3 k3
    rw [h3] at k3
    cases k3; rfl
  subst hcs
  refine ⟨g, cs, h1, h2, h3, h4, h5, fun j hj => ?_⟩
  obtain ⟨A, l, c, e1, e2, _⟩ := h6 j hj
  obtain ⟨A2, l2, c2, e3, _, e4⟩ := k6 j hj
  rw [e1] at e3
  cases e3
  exact ⟨A, l, c, e1, e2, e4⟩
theorem OwnP.at_ (h : OwnP W base gp v ps) : ∃ g cap, v = .slice (some ⟨g, 0, none⟩) ps.length cap ∧ ps.length ≤ cap ∧ g < W.heap.size ∧ ∀ j, j < ps.length → ∃ A l c, W.cell? ⟨g, j, none⟩ = some (.slice A l c) ∧ ZP W A l c (ps.getD j []) := by
  obtain ⟨g, cs, h1, h2, h3, h4, h5, h6⟩ := h
  refine ⟨g, cs.size, h1, h4, h3.lt, fun j hj => ?_⟩
  obtain ⟨A, l, c, k1, k2, _⟩ := h6 j hj
  exact ⟨A, l, c, by rw [h3.cell, k1], k2⟩
end

theorem info_zp : (Tryz.prog.info? 27).map (fun i => (i.zero, i.size, i.bytes)) = some (some (.slice none 0 0), 1, 24) := by kernel_rfl

/-- append(h, p) -/
theorem wpList_append_p {w : World} {ops : Array Oper} {rest : List Oper} {o : Oper} {a : Act} {Q : Exit → Act → World → Prop} (hgd : o.guard = none) (s x : Operand)
    (ho : o.op = .call { callee := .builtin .append, args := #[s, x], argTypes := #[33, 33] }) (base gp : Nat) (v : Value) (ps : List (List Int)) (hs : a.eval s = v) (hown : OwnP w base gp v ps)
    (gx : Nat) (A : Option Addr) (l c : Nat) (q : List Int) (hx : a.eval x = .slice (some ⟨gx, 0, none⟩) 1 1) (hxc : w.cell? ⟨gx, 0, none⟩ = some (.slice A l c)) (hz : ZP w A l c q) (hne : ZNe A l gp) (hn : ps.length ≤ 1000000) (hbase : base ≤ w.heap.size)
    (h : ∀ v' w', OwnP w' base gp v' (ps ++ [q]) → Below base w w' → (∀ s A l c z, ZBox w gp s A l c z → ZBox w' gp s A l c z) → wpList Tryz.prog ops Q rest (a.put o.dst v') w') :
    wpList Tryz.prog ops Q (o :: rest) a w := by
  obtain ⟨g, cs, h1, h2, h3, h4, h5, h6⟩ := hown
  obtain ⟨i0, hi, hz0, hz1, hz2⟩ := info_parts info_zp
  refine wpList_app1 hgd s x 33 27 ho i0 (.slice none 0 0) Tryz.underlying33 hi hz0 hz1 (by omega) rfl rfl v ps.length cs hs (.inr ⟨g, h1, h3, h4⟩) gx (.slice A l c) hx hxc rfl (by omega) ?_
  intro g' w' CS k1 k2 k3 k4 k5 hst
  have hnew : Below w.heap.size w (w.drew.alloc (.cells CS 27)) := ((Below.refl w.heap.size w).drew).alloc (by simp) _
  have hall : ∀ j, j < CS.size → ∃ A l c, CS[j]? = some (.slice A l c) := fun j hj => by
    rcases Nat.lt_trichotomy j ps.length with h7 | h7 | h7
    · rw [k3 j h7]; exact h5 j (by omega)
    · subst h7; exact ⟨_, _, _, k4⟩
    · rcases k5 j h7 hj with h8 | h8
      · exact ⟨_, _, _, h8⟩
      · rw [h8]
        rcases Nat.lt_or_ge j cs.size with h9 | h9
        · exact h5 j h9
        · rw [Array.getElem?_eq_none h9, Array.getElem?_eq_getElem hj] at h8; cases h8
  have hzp : ∀ {A1 : Option Addr} {l1 c1 : Nat} {f : List Int}, ZP w A1 l1 c1 f → ZP w' A1 l1 c1 f := fun {A1 l1 c1 f} hf => by
    rcases hst with ⟨_, e2, _, e4⟩ | ⟨_, e2⟩
    · rw [e2]
      have e5 : v = .slice (some ⟨g', 0, none⟩) ps.length CS.size := by assumption
      have : g' = g := slice_block (e5.symm.trans h1)
      subst this
      exact hf.far (t := 27) (by decide) h3 (hf.ne h3 h5) ps.length (.slice A l c)
    · rw [e2]
      exact hf.below hnew
  have hbx : ∀ s A l c z, ZBox w gp s A l c z → ZBox w' gp s A l c z := fun s A l c z hb => by
    rcases hst with ⟨_, e2, _, e4⟩ | ⟨_, e2⟩
    · rw [e2]
      have hne : gp ≠ g' := by
        intro e
        subst e
        have h7 := hb.blk
        unfold Blk at e4 h7
        rw [e4] at h7
        cases h7
      exact ⟨Blk.far (t := 50) hb.blk hne _, hb.hz.far (by decide) e4 _ _⟩
    · rw [e2]
      exact hb.move hnew
  have hbe : Below base w w' := by
    rcases hst with ⟨e1, e2, _, _⟩ | ⟨_, e2⟩
    · rw [e2]
      have : g' = g := slice_block (e1.symm.trans h1)
      subst this
      exact (Below.refl _ _).setCell (p := ⟨g', ps.length, none⟩) h2 _
    · rw [e2]; exact hnew.mono hbase
  have hg' : base ≤ g' := by
    rcases hst with ⟨e1, _, _, _⟩ | ⟨e1, _⟩
    · rw [slice_block (e1.symm.trans h1)]; exact h2
    · omega
  have hL : (ps ++ [q]).length = ps.length + 1 := by rw [List.length_append]; rfl
  refine h _ w' ⟨g', CS, by rw [hL], hg', k1, by omega, hall, fun j hj => ?_⟩ hbe hbx
  rcases Nat.lt_or_ge j ps.length with h7 | h7
  · obtain ⟨Aj, lj, cj, m1, m2, m3⟩ := h6 j h7
    refine ⟨Aj, lj, cj, by rw [k3 j h7, m1], ?_, m3⟩
    rw [List.getD_eq_getElem?_getD, List.getElem?_append_left h7, ← List.getD_eq_getElem?_getD]
    exact hzp m2
  · have h8 : j = ps.length := by omega
    subst h8
    refine ⟨A, l, c, k4, ?_, hne⟩
    rw [List.getD_eq_getElem?_getD, List.getElem?_append_right (Nat.le_refl _), Nat.sub_self]
    exact hzp hz
end Go.Proofs.YtgblfpkfapmlnaaGreat
