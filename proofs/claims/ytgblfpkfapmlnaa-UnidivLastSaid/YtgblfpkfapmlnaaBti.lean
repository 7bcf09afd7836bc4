/- Rows of numbers of the reference; the walks of cylinderref08.Trim and At. -/
import Derived.Test.YtgblfpkfapmlnaaBth
namespace Go.Proofs.Ytgblfpkfapmlnaa
open Go.RowKit

/-- a polynomial of the reference: a slice of numbers -/
structure ZP (w : World) (A : Option Addr) (len cap : Nat) (f : List Int) : Prop where
  length : f.length = len
  elems : len = 0 ∨ ∃ b off, A = some ⟨b, off, none⟩ ∧ b < w.heap.size ∧ ∀ j, j < len → ∃ s Aj lj cj, w.cell? ⟨b, off + j * 2, none⟩ = some (.int .i64 s) ∧ w.cell? ⟨b, off + j * 2 + 1, none⟩ = some (.slice Aj lj cj) ∧ ZAt w s Aj lj cj (f.getD j 0)
  cap : len ≤ cap
theorem ZP.below {w w' : World} {A : Option Addr} {len cap : Nat} {f : List Int} (h : ZP w A len cap f) (hb : Below w.heap.size w w') : ZP w' A len cap f := by
  refine ⟨h.length, ?_, h.cap⟩
  rcases h.elems with h0 | ⟨b, off, hA, hlt, hc⟩
  · exact .inl h0
  · refine .inr ⟨b, off, hA, Nat.lt_of_lt_of_le hlt hb.size, fun j hj => ?_⟩
    obtain ⟨s, Aj, lj, cj, h1, h2, h3⟩ := hc j hj
    exact ⟨s, Aj, lj, cj, (hb.cell (p := ⟨b, off + j * 2, none⟩) hlt).trans h1, (hb.cell (p := ⟨b, off + j * 2 + 1, none⟩) hlt).trans h2, h3.below hb⟩
theorem ZP.at_ {w : World} {A : Option Addr} {len cap : Nat} {f : List Int} (h : ZP w A len cap f) (hl : 0 < len) : ∃ b off, A = some ⟨b, off, none⟩ ∧ b < w.heap.size ∧ ∀ j, j < len → ∃ s Aj lj cj, w.cell? ⟨b, off + j * 2, none⟩ = some (.int .i64 s) ∧ w.cell? ⟨b, off + j * 2 + 1, none⟩ = some (.slice Aj lj cj) ∧ ZAt w s Aj lj cj (f.getD j 0) := by
  rcases h.elems with h0 | h1
  · omega
  · exact h1
theorem ZP.nil (w : World) (A : Option Addr) (cap : Nat) : ZP w A 0 cap [] := ⟨rfl, .inl rfl, Nat.zero_le _⟩
theorem ZP.take {w : World} {A : Option Addr} {len cap : Nat} {f : List Int} (h : ZP w A len cap f) {k : Nat} (hk : k ≤ len) : ZP w A k cap (f.take k) := by
  refine ⟨by rw [List.length_take, h.length]; omega, ?_, by have := h.cap; omega⟩
  rcases Nat.eq_zero_or_pos k with h0 | h0
  · exact .inl h0
  · obtain ⟨b, off, hA, hlt, hc⟩ := h.at_ (by omega)
    refine .inr ⟨b, off, hA, hlt, fun j hj => ?_⟩
    rw [take_getD' f hj]
    exact hc j (by omega)

/-- the bits stay when a row of numbers grows -/
theorem ZAt.grown {w w' : World} {s : Int} {A : Option Addr} {l c : Nat} {z : Int} (h : ZAt w s A l c z) {row : Option Nat} (hg : w.grownBy w' row) (hr : ∀ g, row = some g → ∃ cs : Array Value, Blk w g 45 cs) : ZAt w' s A l c z := by
  rcases h.typ with h0 | ⟨b, off, cs, hA, hk⟩
  · subst h0
    exact ⟨h.sign, ⟨h.bits.length, h.bits.cap, .inl rfl⟩, .inl rfl⟩
  · have hne : some b ≠ row := by
      intro e
      obtain ⟨cs2, h2⟩ := hr b e.symm
      unfold Blk at hk h2
      rw [hk] at h2
      cases h2
    have hk2 : Blk w' b 3 cs := (hg.block b (Blk.lt hk) hne).trans hk
    refine ⟨h.sign, ⟨h.bits.length, h.bits.cap, ?_⟩, .inr ⟨b, off, cs, hA, hk2⟩⟩
    rcases Nat.eq_zero_or_pos l with hl | hl
    · exact .inl hl
    · obtain ⟨b2, off2, hA2, hlt, hc⟩ := h.bits.at_ hl
      rw [hA] at hA2
      cases hA2
      refine .inr ⟨b, off, hA, Blk.lt hk2, fun j hj => ?_⟩
      rw [Blk.cell hk2, ← Blk.cell hk]
      exact hc j hj

/-- an own row of numbers -/
structure ZCells (w : World) (xs : List Value) (f : List Int) : Prop where
  len : xs.length = f.length * 2
  get : ∀ j, j < f.length → ∃ s A l c, xs[j * 2]? = some (.int .i64 s) ∧ xs[j * 2 + 1]? = some (.slice A l c) ∧ ZAt w s A l c (f.getD j 0)
def OwnZ (w : World) (base : Nat) (v : Value) (f : List Int) : Prop := ∃ xs, w.ownsRow base 45 2 v f.length xs ∧ ZCells w xs f
theorem OwnZ.nil (w : World) (base : Nat) : OwnZ w base (.slice none 0 0) [] := ⟨[], World.ownsRow_nil _ _ _ _, rfl, fun _ hj => absurd hj (Nat.not_lt_zero _)⟩
theorem own_row {w : World} {base n : Nat} {e : TypeId} {sz : Nat} {v : Value} {xs : List Value} (h : w.ownsRow base e sz v n xs) : ∀ g, v.ownBlock = some g → ∃ cs : Array Value, Blk w g e cs := fun g hg => by
  obtain ⟨_, ⟨h1, _⟩ | ⟨g2, cap, cur, h1, _, hh, _⟩⟩ := h
  · rw [h1] at hg; cases hg
  · rw [h1] at hg
    cases hg
    exact ⟨cur, hh⟩
theorem OwnZ.zp {w : World} {base : Nat} {v : Value} {f : List Int} (h : OwnZ w base v f) : ∃ A cap, v = .slice A f.length cap ∧ ZP w A f.length cap f ∧ (0 < f.length → ∃ g, A = some ⟨g, 0, none⟩ ∧ base ≤ g) := by
  obtain ⟨xs, ho, hc⟩ := h
  rcases Nat.eq_zero_or_pos f.length with h0 | h0
  · have hf : f = [] := List.eq_nil_of_length_eq_zero h0
    subst hf
    obtain ⟨_, ⟨rfl, _⟩ | ⟨g, cap, cur, rfl, _⟩⟩ := ho
    · exact ⟨_, _, rfl, ZP.nil _ _ _, fun h => absurd h (Nat.not_lt_zero _)⟩
    · exact ⟨_, _, rfl, ZP.nil _ _ _, fun h => absurd h (Nat.not_lt_zero _)⟩
  · obtain ⟨g, cap, rfl, hg, hlt⟩ := World.ownsRow.form ho h0
    have hcap : f.length ≤ cap := by
      obtain ⟨_, ⟨h1, _⟩ | ⟨g2, cap2, cur, h1, _, _, hc, _⟩⟩ := ho
      · cases h1
      · cases h1; exact hc
    refine ⟨_, _, rfl, ⟨rfl, .inr ⟨g, 0, rfl, hlt, fun j hj => ?_⟩, hcap⟩, fun _ => ⟨g, rfl, hg⟩⟩
    obtain ⟨s, A, l, c, h1, h2, h3⟩ := hc.get j hj
    refine ⟨s, A, l, c, ?_, ?_, h3⟩
    · rw [Nat.zero_add, World.ownsRow.cellAt ho _ (by omega)]; exact h1
    · rw [Nat.zero_add, World.ownsRow.cellAt ho _ (by omega)]; exact h2
/-- one or more numbers are added -/
theorem OwnZ.grow {w1 w2 : World} {base : Nat} {v v' : Value} {f g : List Int} {xs ys : List Value} (h : w1.ownsRow base 45 2 v f.length xs) (hx : ZCells w1 xs f) (hy : ZCells w1 ys g) (hg : w1.grownBy w2 v.ownBlock)
    (h' : w2.ownsRow base 45 2 v' (f.length + g.length) (xs ++ ys)) : OwnZ w2 base v' (f ++ g) := by
  refine ⟨xs ++ ys, by rw [List.length_append]; exact h', by rw [List.length_append, List.length_append, hx.len, hy.len, Nat.add_mul], fun j hj => ?_⟩
  have hr := own_row h
  by_cases hlt : j < f.length
  · obtain ⟨s, A, l, c, h1, h2, h3⟩ := hx.get j hlt
    refine ⟨s, A, l, c, ?_, ?_, ?_⟩
    · rw [List.getElem?_append_left (by rw [hx.len]; omega)]; exact h1
    · rw [List.getElem?_append_left (by rw [hx.len]; omega)]; exact h2
    · rw [List.getD_eq_getElem?_getD, List.getElem?_append_left hlt, ← List.getD_eq_getElem?_getD]
      exact h3.grown hg hr
  · rw [List.length_append] at hj
    obtain ⟨s, A, l, c, h1, h2, h3⟩ := hy.get (j - f.length) (by omega)
    refine ⟨s, A, l, c, ?_, ?_, ?_⟩
    · rw [List.getElem?_append_right (by rw [hx.len]; omega), hx.len, show j * 2 - f.length * 2 = (j - f.length) * 2 by omega]; exact h1
    · rw [List.getElem?_append_right (by rw [hx.len]; omega), hx.len, show j * 2 + 1 - f.length * 2 = (j - f.length) * 2 + 1 by omega]; exact h2
    · rw [List.getD_eq_getElem?_getD, List.getElem?_append_right (by omega), ← List.getD_eq_getElem?_getD]
      exact h3.grown hg hr
theorem ZCells.below {w w' : World} {xs : List Value} {f : List Int} (h : ZCells w xs f) (hb : Below w.heap.size w w') : ZCells w' xs f := ⟨h.len, fun j hj => by
  obtain ⟨s, A, l, c, h1, h2, h3⟩ := h.get j hj
  exact ⟨s, A, l, c, h1, h2, h3.below hb⟩⟩
theorem ZCells.one {w : World} {s : Int} {A : Option Addr} {l c : Nat} {z : Int} (h : ZAt w s A l c z) : ZCells w [.int .i64 s, .slice A l c] [z] := ⟨rfl, fun j hj => by
  have : j = 0 := by simp at hj; exact hj
  subst this
  exact ⟨s, A, l, c, rfl, rfl, h⟩⟩
theorem OwnZ.below {w w' : World} {base : Nat} {v : Value} {f : List Int} (h : OwnZ w base v f) (hb : Below w.heap.size w w') : OwnZ w' base v f := by
  obtain ⟨xs, ho, hc⟩ := h
  refine ⟨xs, ⟨ho.1, ?_⟩, hc.below hb⟩
  rcases ho.2 with h1 | ⟨g, cap, cur, hv, hg, hh, rest⟩
  · exact .inl h1
  · exact .inr ⟨g, cap, cur, hv, hg, Blk.below (t := 45) hh hb (Blk.lt (t := 45) hh), rest⟩

theorem info_z : (Try.prog.info? 45).map (fun i => (i.zero, i.size, i.bytes)) = some (some (.agg #[.int .i64 0, .slice none 0 0]), 2, 32) := by kernel_rfl

/-- append(out, z) -/
theorem wpList_append_z {w : World} {ops : Array Oper} {rest : List Oper} {o : Oper} {a : Act} {Q : Exit → Act → World → Prop} (hgd : o.guard = none) (s x : Operand)
    (ho : o.op = .call { callee := .builtin .append, args := #[s, x], argTypes := #[27, 27] }) (base : Nat) (v : Value) (f : List Int) (hs : a.eval s = v) (hown : OwnZ w base v f)
    (sz : Int) (A : Option Addr) (l c : Nat) (z : Int) (hx : a.eval x = .slice (some ⟨w.heap.size, 0, none⟩) 1 1) (hz : ZAt w sz A l c z) (hn : f.length ≤ 1000000) (hbase : base ≤ w.heap.size)
    (h : ∀ v' w', OwnZ w' base v' (f ++ [z]) → (∀ W, Below base W w → Below base W w') → wpList Try.prog ops Q rest (a.put o.dst v') w') :
    wpList Try.prog ops Q (o :: rest) a (w.alloc (zbox sz A l c)) := by
  obtain ⟨i, hi, hz0, hz1, hz2⟩ := info_parts info_z
  obtain ⟨xs, hown, hc⟩ := hown
  have hal : Below w.heap.size w (w.alloc (zbox sz A l c)) := (Below.refl _ _).alloc (Nat.le_refl _) _
  have ho1 := World.ownsRow.alloc hown (zbox sz A l c)
  refine wpList_append_own _ hgd s x 27 ho base 45 i _ 2 32 Try.underlying27 hi hz0 hz1 hz2 rfl (by decide) v f.length xs hs ho1 ⟨w.heap.size, 0, none⟩ 1 1 [.int .i64 sz, .slice A l c] hx rfl ?_ ?_ (by unfold maxLen; omega) (by omega) (by simp; omega) (fun v' w' h1 h2 _ => ?_)
  · intro j y hj
    match j, hj with
    | 0, hj => simp at hj; subst hj; simp [Addr.add]
    | 1, hj => simp at hj; subst hj; simp [Addr.add]
  · intro y hy
    simp at hy
    rcases hy with rfl | rfl <;> rfl
  · refine h v' w' (OwnZ.grow ho1 (hc.below hal) (ZCells.one (hz.below hal)) h2 h1) (fun W hW => ?_)
    exact (hW.alloc hbase (zbox sz A l c)).grown h2 (by simp; omega) (fun j hj => (World.ownsRow.lt hown j hj).1)

set_option maxRecDepth 100000 in
set_option maxHeartbeats 1000000 in
theorem ztrim_any (A : Option Addr) (len cap : Nat) (f : List Int) (w : World) (h : ZP w A len cap f) (hm : len ≤ 1099511627776) :
    Calls Try.prog 41 #[.slice A len cap] w fun e w' => e = .returned (.slice A (plen f) cap) ∧ w = w' := by
  have htl : plen f ≤ len := by have := plen_le f; have := h.length; omega
  have hcap := h.cap
  go_enter Try.func41, Try.ntmps41
  go_wp2
  go_loop [3] (fun n => ∃ k : Nat, k ≤ len ∧ plen f ≤ k ∧ n = .int .i64 k) (fun n => (intOf n).toNat)
  case atStart => exact ⟨len, by omega, by omega, rfl⟩
  case round =>
    obtain ⟨k, hk, ht, rfl⟩ := hrel
    cases k with
    | zero =>
      have H0 := Lib.hid (show plen f = 0 by omega)
      clear h ht htl
      go_wp2
      go_ret
      exact ⟨by rw [H0.out]; rfl, rfl⟩
    | succ k =>
      obtain ⟨b, off, rfl, hb, hc⟩ := h.at_ (by omega)
      obtain ⟨s, Aj, lj, cj, e0, _, hz⟩ := hc k (by omega)
      have hpr := Lib.hid (plen_pred f k ht)
      have heq := Lib.hid (plen_eq f k ht)
      obtain ⟨x, hx⟩ : ∃ x, x = f.getD k 0 := ⟨_, rfl⟩
      have hs := hz.sign
      rw [← hx] at hs
      have Hx := Lib.hid hx
      clear hc h hx ht htl hz
      have i1 : IntKind.i64.wrap ((k + 1 : Nat) - 1 : Int) = (k : Int) := by rw [IntWalk.i64_in _ (by omega)]; omega
      by_cases h0 : x = 0
      · subst h0
        have hs0 : s = 0 := hs
        subst hs0
        clear hs
        go_wp2
        go_round
        case rel => exact ⟨k, by omega, hpr.out Hx.out.symm, by go_num⟩
        case measure => simp [intOf]
      · have hsne : s ≠ 0 := by
          rw [hs]
          rcases sg_cases x with ⟨_, e⟩ | ⟨e, _⟩ | ⟨_, e⟩
          · rw [e]; decide
          · exact absurd e h0
          · rw [e]; decide
        have hb0 : (s == 0) = false := by rw [beq_eq_false_iff_ne]; exact hsne
        have H1 := Lib.hid (heq.out (by rw [← Hx.out]; exact h0))
        clear h0 hs hsne
        go_wp2
        go_ret
        exact ⟨by rw [H1.out]; rfl, rfl⟩

set_option maxRecDepth 100000 in
set_option maxHeartbeats 1000000 in
theorem zat_any (A : Option Addr) (len cap : Nat) (f : List Int) (i : Nat) (w : World) (h : ZP w A len cap f) (hm : len ≤ 1000000) (hi : i ≤ 1000000) :
    Calls Try.prog 44 #[.slice A len cap, .int .i64 (i : Int)] w (ZRet w (f.getD i 0)) := by
  have hl := h.length
  by_cases hlt : i < len
  · obtain ⟨b, off, rfl, hb, hc⟩ := h.at_ (by omega)
    obtain ⟨s, Aj, lj, cj, e0, e1, hz⟩ := hc i hlt
    have t1 : (i : Int) < (len : Int) := by omega
    have t2 : ¬ (len : Int) ≤ (i : Int) := by omega
    have t3 : ¬ (i : Int) < 0 := by omega
    have nb : w.heap.size ≠ b := by omega
    obtain ⟨z, hzz⟩ : ∃ z, z = f.getD i 0 := ⟨_, rfl⟩
    rw [← hzz] at hz ⊢
    have Hz := Lib.hid hz
    clear hc h hz hzz
    go_enter Try.func44, Try.ntmps44
    go_wp2
    refine bodyPost_ret (v := .agg #[.int .i64 s, .slice Aj lj cj]) (by simp [results, Try.results44, go_sem]) rfl ⟨_, _, _, _, rfl, Hz.out.below (by (repeat (first | exact Below.refl _ _ | refine Below.drew ?_ | refine Below.alloc ?_ (by first | (simp; done) | (simp; omega) | omega) _ | refine Below.setCell ?_ (by first | (simp; done) | (simp; omega) | omega) _))), (by (repeat (first | exact Below.refl _ _ | refine Below.drew ?_ | refine Below.alloc ?_ (by first | (simp; done) | (simp; omega) | omega) _ | refine Below.setCell ?_ (by first | (simp; done) | (simp; omega) | omega) _)))⟩
  · have t1 : (len : Int) ≤ (i : Int) := by omega
    have t3 : ¬ (i : Int) < 0 := by omega
    have hx : f.getD i 0 = 0 := by rw [List.getD_eq_getElem?_getD, List.getElem?_eq_none (by omega)]; rfl
    rw [hx]
    clear h hx
    go_enter Try.func44, Try.ntmps44
    go_wp2
    refine bodyPost_ret (v := .agg #[.int .i64 0, .slice none 0 0]) (by simp [results, Try.results44, go_sem]) rfl ⟨_, _, _, _, rfl, ZAt.zero _ _ _, (by (repeat (first | exact Below.refl _ _ | refine Below.drew ?_ | refine Below.alloc ?_ (by first | (simp; done) | (simp; omega) | omega) _ | refine Below.setCell ?_ (by first | (simp; done) | (simp; omega) | omega) _)))⟩
end Go.Proofs.Ytgblfpkfapmlnaa
