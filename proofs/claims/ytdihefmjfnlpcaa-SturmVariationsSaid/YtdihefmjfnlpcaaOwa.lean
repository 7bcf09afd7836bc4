/- Own slices that grow by append, several beside each other: of polynomials and of ints. -/
import Derived.Test.YtdihefmjfnlpcaaOwp
namespace Go.Proofs.Ytdihefmjfnlpcaa
open Go.RowKit

/-- What an append to the value v leaves. -/
structure FrA (w w' : World) (v v' : Value) : Prop where
  poly : ∀ {A : Option Addr} {l c : Nat} {p : List Int}, PolyN w A l c p → PolyN w' A l c p
  row : ∀ {g : Nat} {t : TypeId} {cs : Array Value}, v.ownBlock ≠ some g → Blk w g t cs → Blk w' g t cs
  below : ∀ {base : Nat} {W : World}, (∀ g, v.ownBlock = some g → base ≤ g) → base ≤ w.heap.size → Below base W w → Below base W w'
  own : ∀ g, v'.ownBlock = some g → v.ownBlock = some g ∨ w.heap.size ≤ g
  size : w.heap.size ≤ w'.heap.size

/-- v is an own slice of the canonical polynomials ps, nil or at base or behind it -/
def OwnV (w : World) (base : Nat) (v : Value) (n : Nat) (ps : List (List Int)) : Prop := (v = .slice none 0 0 ∧ n = 0 ∧ ps = []) ∨ ∃ g cap, v = .slice (some ⟨g, 0, none⟩) n cap ∧ base ≤ g ∧ OwnP w g n cap ps

/-- Block g is a row of ints, the first n of them xs. -/
structure OwnN (w : World) (g n cap : Nat) (xs : List Int) : Prop where
  blk : ∃ cs, Blk w g 3 cs ∧ cs.size = cap ∧ (∀ j, j < cap → ∃ x, cs[j]? = some (.int .i64 x)) ∧ ∀ j, j < n → cs[j]? = some (.int .i64 (xs.getD j 0))
  len : xs.length = n
  le : n ≤ cap
/-- v is an own slice of the ints xs, nil or at base or behind it -/
def OwnJ (w : World) (base : Nat) (v : Value) (n : Nat) (xs : List Int) : Prop := (v = .slice none 0 0 ∧ n = 0 ∧ xs = []) ∨ ∃ g cap, v = .slice (some ⟨g, 0, none⟩) n cap ∧ base ≤ g ∧ OwnN w g n cap xs

section
variable {w w' : World} {base n : Nat} {v v' u : Value} {ps : List (List Int)} {xs : List Int}
theorem OwnV.nil (w : World) (base : Nat) : OwnV w base (.slice none 0 0) 0 [] := .inl ⟨rfl, rfl, rfl⟩
theorem OwnJ.nil (w : World) (base : Nat) : OwnJ w base (.slice none 0 0) 0 [] := .inl ⟨rfl, rfl, rfl⟩
theorem OwnN.below {g cap : Nat} (h : OwnN w g n cap xs) (hb : Below w.heap.size w w') : OwnN w' g n cap xs := by
  obtain ⟨cs, hk, h1, h2, h3⟩ := h.blk
  exact ⟨⟨cs, hk.below hb hk.lt, h1, h2, h3⟩, h.len, h.le⟩
theorem OwnV.below (h : OwnV w base v n ps) (hb : Below w.heap.size w w') : OwnV w' base v n ps := by
  rcases h with h | ⟨g, cap, h1, h2, h3⟩
  · exact .inl h
  · exact .inr ⟨g, cap, h1, h2, h3.below hb⟩
theorem OwnJ.below (h : OwnJ w base v n xs) (hb : Below w.heap.size w w') : OwnJ w' base v n xs := by
  rcases h with h | ⟨g, cap, h1, h2, h3⟩
  · exact .inl h
  · exact .inr ⟨g, cap, h1, h2, h3.below hb⟩
theorem OwnV.blt (h : OwnV w base v n ps) : ∀ g, v.ownBlock = some g → base ≤ g ∧ g < w.heap.size := by
  rcases h with ⟨rfl, _⟩ | ⟨g, cap, rfl, h2, h3⟩
  · intro g h; cases h
  · intro g' h; injection h with h; subst h; exact ⟨h2, h3.lt⟩
theorem OwnJ.blt (h : OwnJ w base v n xs) : ∀ g, v.ownBlock = some g → base ≤ g ∧ g < w.heap.size := by
  rcases h with ⟨rfl, _⟩ | ⟨g, cap, rfl, h2, h3⟩
  · intro g h; cases h
  · intro g' h; injection h with h; subst h
    obtain ⟨cs, hk, _⟩ := h3.blk
    exact ⟨h2, hk.lt⟩
/-- two own slices lie apart -/
def Apart (v u : Value) : Prop := ∀ g, v.ownBlock = some g → u.ownBlock ≠ some g
theorem Apart.symm (h : Apart v u) : Apart u v := fun g h1 h2 => h g h2 h1
theorem OwnV.frame (h : OwnV w base v n ps) (hf : FrA w w' u v') (ha : Apart u v) : OwnV w' base v n ps := by
  rcases h with h | ⟨g, cap, rfl, h2, h3⟩
  · exact .inl h
  · refine .inr ⟨g, cap, rfl, h2, ?_⟩
    have hne : u.ownBlock ≠ some g := fun e => ha g e rfl
    obtain ⟨cs, hk, hs, hc⟩ := h3.blk
    have hk' := hf.row hne hk
    refine ⟨⟨cs, hk', hs, hc⟩, h3.len, h3.le, fun j hj => ?_⟩
    obtain ⟨A, l, c, e1, e2⟩ := h3.elems j hj
    refine ⟨A, l, c, ?_, hf.poly e2⟩
    rw [hk'.cell, ← hk.cell]; exact e1
theorem OwnJ.frame (h : OwnJ w base v n xs) (hf : FrA w w' u v') (ha : Apart u v) : OwnJ w' base v n xs := by
  rcases h with h | ⟨g, cap, rfl, h2, h3⟩
  · exact .inl h
  · refine .inr ⟨g, cap, rfl, h2, ?_⟩
    have hne : u.ownBlock ≠ some g := fun e => ha g e rfl
    obtain ⟨cs, hk, h4, h5, h6⟩ := h3.blk
    exact ⟨⟨cs, hf.row hne hk, h4, h5, h6⟩, h3.len, h3.le⟩
/-- the grown slice lies apart from what its forerunner lay apart from -/
theorem Apart.grown (hf : FrA w w' u v') (ha : Apart u v) (hb : ∀ g, v.ownBlock = some g → g < w.heap.size) : Apart v' v := fun g h1 h2 => by
  rcases hf.own g h1 with h | h
  · exact ha g h h2
  · have := hb g h2; omega

/-- An append that makes a new row. -/
theorem FrA.fresh (w : World) (v : Value) (t : TypeId) (cs : Array Value) (l c : Nat) : FrA w (w.drew.alloc (.cells cs t)) v (.slice (some ⟨w.heap.size, 0, none⟩) l c) := by
  have hbw : Below w.heap.size w (w.drew.alloc (.cells cs t)) := ((Below.refl _ _).drew).alloc (by simp) _
  exact ⟨fun h => h.below ikN hbw, fun _ h => h.below hbw h.lt, fun _ hb2 h => h.trans (hbw.mono hb2), fun g h => by have h1 : w.heap.size = g := Option.some.inj h; exact .inr (by omega), hbw.size⟩
/-- An append in place: a cell of a row without signs and digits is written. -/
theorem FrA.inplace {g k : Nat} {t : TypeId} {cs : Array Value} (hk : Blk w g t cs) (hc : ∀ j, j < cs.size → (∃ A l c, cs[j]? = some (.slice A l c)) ∨ ∃ x, cs[j]? = some (.int .i64 x)) (hkl : k < cs.size) (x : Value) (l c l' c' : Nat) : FrA w (w.setCell ⟨g, k, none⟩ x) (.slice (some ⟨g, 0, none⟩) l c) (.slice (some ⟨g, 0, none⟩) l' c') := by
  have hold : ∃ o, w.cell? ⟨g, k, none⟩ = some o ∧ NoDigit o := by
    rcases hc k hkl with ⟨A0, l0, c0, h0⟩ | ⟨x0, h0⟩
    · exact ⟨_, by rw [hk.cell]; exact h0, noDigit_slice _ _ _⟩
    · exact ⟨_, by rw [hk.cell]; exact h0, fun k h => by cases h⟩
  obtain ⟨o, hold, hnd⟩ := hold
  refine ⟨fun {A l c p} h => ?_, fun {g'} _ _ hne h => ?_, fun hb _ h => h.setCell (hb g rfl) _, fun g' h => .inl h, by simp [World.setCell]⟩
  · refine ⟨h.length, h.cap, ?_⟩
    rcases h.elems with he | ⟨b, off, hA, hlt, hel⟩
    · exact .inl he
    · refine .inr ⟨b, off, hA, by simpa [World.setCell] using hlt, fun j hj => ?_⟩
      obtain ⟨neg, Aj, lj, cj, h1, h2, h3⟩ := hel j hj
      have hne : b ≠ g := by
        intro e
        subst e
        rw [hk.cell] at h1
        rcases Nat.lt_or_ge (off + j * 2) cs.size with h4 | h4
        · rcases hc _ h4 with ⟨A5, l5, c5, h5⟩ | ⟨x5, h5⟩
          · rw [h5] at h1; cases h1
          · rw [h5] at h1; cases h1
        · rw [Array.getElem?_eq_none h4] at h1; cases h1
      refine ⟨neg, Aj, lj, cj, ?_, ?_, h3.store _ hold hnd⟩
      · rw [World.cell?_setCell_other _ _ _ _ (by intro e; injection e with e _; exact hne e.symm)]; exact h1
      · rw [World.cell?_setCell_other _ _ _ _ (by intro e; injection e with e _; exact hne e.symm)]; exact h2
  · refine h.far (p := ⟨g, k, none⟩) (fun e => hne ?_) _
    show some g = some g'
    rw [e]
end

theorem info_int1 : (Try.prog.info? 3).map (fun i => (i.zero, i.size, i.bytes)) = some (some (.int .i64 0), 1, 8) := by kernel_rfl

/-- the new row of an append of one value to a full slice -/
theorem grown_row {olds : List Value} {x z : Value} {n cap' : Nat} (hz : z.cells.size = 1) (hz0 : z.cells[0]! = z) (hol : olds.length = n) (hge : n + 1 ≤ cap') :
    ∃ CS : Array Value, CS = (olds ++ [x]).toArray ++ Builtin.zeroCells z.cells (cap' - (n + 1)) ∧ CS.size = cap' ∧ (∀ j, j < n → CS[j]? = olds[j]?) ∧ CS[n]? = some x ∧ ∀ j, n + 1 ≤ j → j < cap' → CS[j]? = some z := by
  obtain ⟨zs, hzs⟩ : ∃ zs, zs = Builtin.zeroCells z.cells (cap' - (n + 1)) := ⟨_, rfl⟩
  have hzl : zs.size = cap' - (n + 1) := by rw [hzs, size_zeroCells, hz, Nat.mul_one]
  have hzv : ∀ j, j < zs.size → zs[j]? = some z := fun j hj => by
    have hj2 : j < (cap' - (n + 1)) * z.cells.size := by rw [hzs, size_zeroCells] at hj; exact hj
    rw [hzs]
    unfold Builtin.zeroCells
    rw [Array.getElem?_map, Array.getElem?_range, if_pos hj2]
    simp only [Option.map_some, hz, Nat.mod_one, hz0]
  rw [← hzs]
  refine ⟨_, rfl, ?_, fun j hj => ?_, ?_, fun j h1 h2 => ?_⟩
  · rw [Array.size_append, List.size_toArray, List.length_append, hol, hzl]; simp; omega
  · rw [Array.getElem?_append_left (by simp; omega), List.getElem?_toArray, List.getElem?_append_left (by omega)]
  · rw [Array.getElem?_append_left (by simp; omega), List.getElem?_toArray, List.getElem?_append_right (by omega), hol, Nat.sub_self]; rfl
  · have e1 : (olds ++ [x]).toArray.size = n + 1 := by simp [hol]
    rw [Array.getElem?_append_right (by omega), e1]
    exact hzv _ (by omega)

/-- append(list, x) to an own slice of elements of one cell -/
theorem wpList_app1 {w : World} {ops : Array Oper} {rest : List Oper} {o : Oper} {a : Act} {Q : Exit → Act → World → Prop} (hgd : o.guard = none) (s x : Operand) (t e : TypeId)
    (ho : o.op = .call { callee := .builtin .append, args := #[s, x], argTypes := #[t, t] }) (i0 : TypeInfo) (z : Value) (ht : Try.prog.underlying t = some (.slice e)) (hi : Try.prog.info? e = some i0) (hz0 : i0.zero = some z) (hz1 : i0.size = 1) (hz2 : i0.bytes ≤ 128) (hzs : z.cells.size = 1) (hzc : z.cells[0]! = z)
    (v : Value) (n : Nat) (cs : Array Value) (hs : a.eval s = v) (hv : (v = .slice none 0 0 ∧ n = 0 ∧ cs = #[]) ∨ ∃ g, v = .slice (some ⟨g, 0, none⟩) n cs.size ∧ Blk w g e cs ∧ n ≤ cs.size)
    (gx : Nat) (y : Value) (hx : a.eval x = .slice (some ⟨gx, 0, none⟩) 1 1) (hxc : w.cell? ⟨gx, 0, none⟩ = some y) (hy : y.oneCell' = true) (hn : n + 1 ≤ 1000000000000)
    (h : ∀ g' w' CS, Blk w' g' e CS → n + 1 ≤ CS.size → (∀ j, j < n → CS[j]? = cs[j]?) → CS[n]? = some y → (∀ j, n + 1 ≤ j → j < CS.size → CS[j]? = some z ∨ CS[j]? = cs[j]?) →
      ((v = .slice (some ⟨g', 0, none⟩) n CS.size ∧ w' = w.setCell ⟨g', n, none⟩ y ∧ CS.size = cs.size ∧ Blk w g' e cs) ∨ (g' = w.heap.size ∧ w' = w.drew.alloc (.cells CS e))) → wpList Try.prog ops Q rest (a.put o.dst (.slice (some ⟨g', 0, none⟩) (n + 1) CS.size)) w') :
    wpList Try.prog ops Q (o :: rest) a w := by
  refine wpList_plain hgd fun K hK' => ?_
  have hbytes : ∀ m, m ≤ 1000000000001 → m * i0.bytes ≤ 140737488355328 := fun m hm => Nat.le_trans (Nat.mul_le_mul hm hz2) (by omega)
  have hnews : ∀ (j : Nat) (u : Value), [y][j]? = some u → w.cell? ((⟨gx, 0, none⟩ : Addr).add j) = some u := fun j u hj => by
    match j, hj with
    | 0, hj => simp at hj; subst hj; simpa [Addr.add] using hxc
  rcases hv with ⟨rfl, rfl, rfl⟩ | ⟨g, rfl, hk, hnc⟩
  · have hrun := run_append_nil (P := Try.prog) w t o.type e i0 z ht hi hz0 ⟨gx, 0, none⟩ 1 1 [y] (by rw [hz1]; rfl) hnews (by omega) (by omega) (by have := hbytes 1 (by omega); omega)
    have hge := grownCap_ge w 1 0 e
    generalize grownCap w 1 0 e = cap' at hrun hge
    obtain ⟨CS, hCS, hc0, hc1, hc2, hc3⟩ := grown_row (olds := []) (x := y) (n := 0) (cap' := cap') hzs hzc rfl hge
    unfold Oper.wp
    simp [execOp, ho, resolve, invoke, builtin, hs, hx, hrun, Result.andThen]
    simp only [List.nil_append, Nat.zero_add] at hCS
    rw [← hCS]
    have := hK' _ _ (h w.heap.size (w.drew.alloc (.cells CS e)) CS (Blk.new w.drew _ _) (by omega) (fun j hj => by omega) hc2 (fun j h1 h2 => .inl (hc3 j h1 (by omega))) (.inr ⟨rfl, rfl⟩))
    rw [hc0] at this
    exact this
  · by_cases hr : n + 1 ≤ cs.size
    · have hold : ∃ u, w.cell? ⟨g, n, none⟩ = some u := ⟨cs[n], by rw [hk.cell, Array.getElem?_eq_getElem (by omega)]⟩
      obtain ⟨u, hold⟩ := hold
      have hrun := run_append_room_cells (P := Try.prog) w t o.type e i0 ht hi g 0 n cs.size ⟨gx, 0, none⟩ 1 1 [y] (by rw [hz1]; rfl) hnews (fun u hu => by simp at hu; subst hu; exact hy) hr
        (fun j hj => by
          have : j = 0 := by simpa using hj
          subst this
          rw [hz1, Nat.zero_add, Nat.mul_one, Nat.add_zero, hold]; rfl)
        (fun j hj => hk.frozen _)
      unfold Oper.wp
      simp [execOp, ho, resolve, invoke, builtin, hs, hx, hrun, Result.andThen]
      have ew : w.setCells g (0 + n * i0.size) [y] = w.setCell ⟨g, n, none⟩ y := by
        rw [hz1, Nat.zero_add, Nat.mul_one]; rfl
      simp only [Nat.zero_add] at ew
      rw [ew]
      have := hK' _ _ (h g _ (cs.setIfInBounds n y) (hk.set_ n y) (by simpa using hr) (fun j hj => by rw [Array.getElem?_setIfInBounds_ne (by omega)]) (by rw [Array.getElem?_setIfInBounds_self_of_lt (by omega)]) (fun j h1 h2 => .inr (by rw [Array.getElem?_setIfInBounds_ne (by omega)])) (.inl ⟨by simp, rfl, by simp, hk⟩))
      simp only [Array.size_setIfInBounds] at this
      exact this
    · have hne : n = cs.size := by omega
      subst hne
      have hoj : ∀ j, cs.toList[j]? = cs[j]? := fun j => by rw [Array.getElem?_toList]
      have hfit := growslice_fits (need := cs.size + 1) (old := cs.size) (bytes := i0.bytes) (by omega) (hbytes _ (by omega))
      have hrun := run_append_grow (P := Try.prog) w t o.type e i0 z ht hi hz0 ⟨g, 0, none⟩ cs.size cs.size cs.toList (by rw [hz1, Array.length_toList]; omega)
        (fun j v hj => by rw [Addr.add_lit, Nat.zero_add, hk.cell, ← hoj]; exact hj)
        ⟨gx, 0, none⟩ 1 1 [y] (by rw [hz1]; rfl) hnews (by omega) (by omega) hfit
      have hge := grownCap_ge w (cs.size + 1) cs.size e
      generalize grownCap w (cs.size + 1) cs.size e = cap' at hrun hge
      obtain ⟨CS, hCS, hc0, hc1, hc2, hc3⟩ := grown_row (olds := cs.toList) (x := y) (n := cs.size) (cap' := cap') hzs hzc (by simp) hge
      unfold Oper.wp
      simp [execOp, ho, resolve, invoke, builtin, hs, hx, hrun, Result.andThen]
      have e2 : cs.push y ++ Builtin.zeroCells z.cells (cap' - (cs.size + 1)) = CS := by
        have e3 : (cs.toList ++ [y]).toArray = cs.push y := by apply Array.ext'; simp
        rw [hCS, e3]
      rw [e2]
      have := hK' _ _ (h w.heap.size (w.drew.alloc (.cells CS e)) CS (Blk.new w.drew _ _) (by omega) (fun j hj => by rw [hc1 j hj]; exact hoj j) hc2 (fun j h1 h2 => .inl (hc3 j h1 (by omega))) (.inr ⟨rfl, rfl⟩))
      rw [hc0] at this
      exact this

/-- append(list, f), lists beside each other -/
theorem wpList_appV {w : World} {ops : Array Oper} {rest : List Oper} {o : Oper} {a : Act} {Q : Exit → Act → World → Prop} (hgd : o.guard = none) (s x : Operand)
    (ho : o.op = .call { callee := .builtin .append, args := #[s, x], argTypes := #[27, 27] })
    (base n : Nat) (v : Value) (ps : List (List Int)) (hs : a.eval s = v) (hown : OwnV w base v n ps) (hbase : base ≤ w.heap.size)
    (gx : Nat) (B : Option Addr) (l c : Nat) (p : List Int) (hx : a.eval x = .slice (some ⟨gx, 0, none⟩) 1 1) (hxc : w.cell? ⟨gx, 0, none⟩ = some (.slice B l c)) (hp : PolyN w B l c p) (hn : n + 1 ≤ 1000000000000)
    (h : ∀ v' w', OwnV w' base v' (n + 1) (ps ++ [p]) → FrA w w' v v' → wpList Try.prog ops Q rest (a.put o.dst v') w') :
    wpList Try.prog ops Q (o :: rest) a w := by
  obtain ⟨i0, hi, hz0, hz1, hz2⟩ := info_parts info_poly
  rcases hown with ⟨rfl, rfl, rfl⟩ | ⟨g, cap, rfl, hg, ho2⟩
  · refine wpList_app1 hgd s x _ 25 ho i0 (.slice none 0 0) Try.underlying27 hi hz0 hz1 (by omega) rfl rfl _ 0 #[] hs (.inl ⟨rfl, rfl, rfl⟩) gx (.slice B l c) hx hxc rfl hn (fun g' w' CS hk hc1 hc2 hc3 hc4 hst => ?_)
    rcases hst with ⟨h1, _⟩ | ⟨rfl, rfl⟩
    · cases h1
    · have hf := FrA.fresh w (.slice none 0 0) 25 CS (0 + 1) CS.size
      refine h _ _ (.inr ⟨w.heap.size, CS.size, rfl, hbase, ⟨⟨CS, hk, rfl, fun j hj => ?_⟩, rfl, hc1, fun j hj => ?_⟩⟩) hf
      · rcases Nat.eq_zero_or_pos j with h0 | h0
        · subst h0; exact ⟨B, l, c, hc3⟩
        · rcases hc4 j (by omega) hj with h5 | h5
          · exact ⟨none, 0, 0, h5⟩
          · simp at h5; omega
      · have : j = 0 := by omega
        subst this
        exact ⟨B, l, c, by rw [hk.cell]; exact hc3, hf.poly hp⟩
  · obtain ⟨cs, hk0, hsz, hcs⟩ := ho2.blk
    have hnl := ho2.len
    have hle := ho2.le
    subst hsz
    refine wpList_app1 hgd s x _ 25 ho i0 (.slice none 0 0) Try.underlying27 hi hz0 hz1 (by omega) rfl rfl _ n cs hs (.inr ⟨g, rfl, hk0, hle⟩) gx (.slice B l c) hx hxc rfl hn (fun g' w' CS hk hc1 hc2 hc3 hc4 hst => ?_)
    have hf : FrA w w' (.slice (some ⟨g, 0, none⟩) n cs.size) (.slice (some ⟨g', 0, none⟩) (n + 1) CS.size) := by
      rcases hst with ⟨h1, rfl, _, h3⟩ | ⟨rfl, rfl⟩
      · simp only [Value.slice.injEq, Option.some.injEq, Addr.mk.injEq, and_true, true_and] at h1
        obtain ⟨rfl, _⟩ := h1
        exact FrA.inplace hk0 (fun j hj => .inl (hcs j hj)) (by omega) _ _ _ _ _
      · exact FrA.fresh w _ _ CS _ _
    have hgg : base ≤ g' := by
      rcases hst with ⟨h1, _⟩ | ⟨rfl, _⟩
      · simp only [Value.slice.injEq, Option.some.injEq, Addr.mk.injEq, and_true, true_and] at h1
        obtain ⟨rfl, _⟩ := h1
        exact hg
      · exact hbase
    refine h _ _ (.inr ⟨g', CS.size, rfl, hgg, ⟨⟨CS, hk, rfl, fun j hj => ?_⟩, by rw [List.length_append, hnl]; rfl, hc1, fun j hj => ?_⟩⟩) hf
    · rcases Nat.lt_trichotomy j n with h1 | h1 | h1
      · rw [hc2 j h1]; exact hcs j (by omega)
      · subst h1; exact ⟨B, l, c, hc3⟩
      · rcases hc4 j h1 hj with h5 | h5
        · exact ⟨none, 0, 0, h5⟩
        · rcases Nat.lt_or_ge j cs.size with h6 | h6
          · rw [h5]; exact hcs j h6
          · rw [Array.getElem?_eq_getElem hj, Array.getElem?_eq_none h6] at h5; cases h5
    · rcases Nat.decEq j n with hne | heq
      · obtain ⟨A1, l1, c1, h1, h2⟩ := ho2.elems j (by omega)
        refine ⟨A1, l1, c1, ?_, ?_⟩
        · rw [hk.cell, hc2 j (by omega), ← hk0.cell]; exact h1
        · rw [List.getD_eq_getElem?_getD, List.getElem?_append_left (by omega), ← List.getD_eq_getElem?_getD]; exact hf.poly h2
      · subst heq
        refine ⟨B, l, c, by rw [hk.cell]; exact hc3, ?_⟩
        rw [List.getD_eq_getElem?_getD, List.getElem?_append_right (by omega), hnl, Nat.sub_self]; exact hf.poly hp

/-- append(list, x) at ints, lists beside each other -/
theorem wpList_appJ {w : World} {ops : Array Oper} {rest : List Oper} {o : Oper} {a : Act} {Q : Exit → Act → World → Prop} (hgd : o.guard = none) (s x : Operand)
    (ho : o.op = .call { callee := .builtin .append, args := #[s, x], argTypes := #[45, 45] })
    (base n : Nat) (v : Value) (xs : List Int) (hs : a.eval s = v) (hown : OwnJ w base v n xs) (hbase : base ≤ w.heap.size)
    (gx : Nat) (y : Int) (hx : a.eval x = .slice (some ⟨gx, 0, none⟩) 1 1) (hxc : w.cell? ⟨gx, 0, none⟩ = some (.int .i64 y)) (hn : n + 1 ≤ 1000000000000)
    (h : ∀ v' w', OwnJ w' base v' (n + 1) (xs ++ [y]) → FrA w w' v v' → wpList Try.prog ops Q rest (a.put o.dst v') w') :
    wpList Try.prog ops Q (o :: rest) a w := by
  obtain ⟨i0, hi, hz0, hz1, hz2⟩ := info_parts info_int1
  rcases hown with ⟨rfl, rfl, rfl⟩ | ⟨g, cap, rfl, hg, ho2⟩
  · refine wpList_app1 hgd s x _ 3 ho i0 (.int .i64 0) Try.underlying45 hi hz0 hz1 (by omega) rfl rfl _ 0 #[] hs (.inl ⟨rfl, rfl, rfl⟩) gx (.int .i64 y) hx hxc rfl hn (fun g' w' CS hk hc1 hc2 hc3 hc4 hst => ?_)
    rcases hst with ⟨h1, _⟩ | ⟨rfl, rfl⟩
    · cases h1
    · have hf := FrA.fresh w (.slice none 0 0) 3 CS (0 + 1) CS.size
      refine h _ _ (.inr ⟨w.heap.size, CS.size, rfl, hbase, ⟨⟨CS, hk, rfl, fun j hj => ?_, fun j hj => ?_⟩, rfl, hc1⟩⟩) hf
      · rcases Nat.eq_zero_or_pos j with h0 | h0
        · subst h0; exact ⟨y, hc3⟩
        · rcases hc4 j (by omega) hj with h5 | h5
          · exact ⟨0, h5⟩
          · simp at h5; omega
      · have : j = 0 := by omega
        subst this
        exact hc3
  · obtain ⟨cs, hk0, hsz, hcs, hcv⟩ := ho2.blk
    have hnl := ho2.len
    have hle := ho2.le
    subst hsz
    refine wpList_app1 hgd s x _ 3 ho i0 (.int .i64 0) Try.underlying45 hi hz0 hz1 (by omega) rfl rfl _ n cs hs (.inr ⟨g, rfl, hk0, hle⟩) gx (.int .i64 y) hx hxc rfl hn (fun g' w' CS hk hc1 hc2 hc3 hc4 hst => ?_)
    have hf : FrA w w' (.slice (some ⟨g, 0, none⟩) n cs.size) (.slice (some ⟨g', 0, none⟩) (n + 1) CS.size) := by
      rcases hst with ⟨h1, rfl, _, h3⟩ | ⟨rfl, rfl⟩
      · simp only [Value.slice.injEq, Option.some.injEq, Addr.mk.injEq, and_true, true_and] at h1
        obtain ⟨rfl, _⟩ := h1
        exact FrA.inplace hk0 (fun j hj => .inr (hcs j hj)) (by omega) _ _ _ _ _
      · exact FrA.fresh w _ _ CS _ _
    have hgg : base ≤ g' := by
      rcases hst with ⟨h1, _⟩ | ⟨rfl, _⟩
      · simp only [Value.slice.injEq, Option.some.injEq, Addr.mk.injEq, and_true, true_and] at h1
        obtain ⟨rfl, _⟩ := h1
        exact hg
      · exact hbase
    refine h _ _ (.inr ⟨g', CS.size, rfl, hgg, ⟨⟨CS, hk, rfl, fun j hj => ?_, fun j hj => ?_⟩, by rw [List.length_append, hnl]; rfl, hc1⟩⟩) hf
    · rcases Nat.lt_trichotomy j n with h1 | h1 | h1
      · rw [hc2 j h1]; exact hcs j (by omega)
      · subst h1; exact ⟨y, hc3⟩
      · rcases hc4 j h1 hj with h5 | h5
        · exact ⟨0, h5⟩
        · rcases Nat.lt_or_ge j cs.size with h6 | h6
          · rw [h5]; exact hcs j h6
          · rw [Array.getElem?_eq_getElem hj, Array.getElem?_eq_none h6] at h5; cases h5
    · rcases Nat.decEq j n with hne | heq
      · rw [hc2 j (by omega), hcv j (by omega), List.getD_eq_getElem?_getD, List.getD_eq_getElem?_getD, List.getElem?_append_left (by omega)]
      · subst heq
        rw [hc3, List.getD_eq_getElem?_getD, List.getElem?_append_right (by omega), hnl, Nat.sub_self]; rfl

theorem OwnV.plst {w : World} {base n : Nat} {v : Value} {ps : List (List Int)} (h : OwnV w base v n ps) : ∃ A c, v = .slice A n c ∧ PLst w A n c ps := by
  rcases h with ⟨rfl, rfl, rfl⟩ | ⟨g, cap, rfl, _, h⟩
  · exact ⟨none, 0, rfl, rfl, .inl rfl⟩
  · exact ⟨_, cap, rfl, h.plst⟩
theorem OwnJ.at_ {w : World} {base n : Nat} {v : Value} {xs : List Int} (h : OwnJ w base v n xs) : ∃ A c, v = .slice A n c ∧ I64At w A n c xs := by
  rcases h with ⟨rfl, rfl, rfl⟩ | ⟨g, cap, rfl, _, h⟩
  · exact ⟨none, 0, rfl, rfl, Nat.le_refl _, .inl rfl⟩
  · obtain ⟨cs, hk, h1, h2, h3⟩ := h.blk
    exact ⟨_, cap, rfl, h.len, h.le, .inr ⟨g, 0, rfl, hk.lt, fun j hj => by rw [Nat.zero_add, hk.cell]; exact h3 j hj⟩⟩
end Go.Proofs.Ytdihefmjfnlpcaa
