/- The walks of cylinderref08.Scale, cylinderref09.Lead, Neg. -/
import Derived.Test.YtgblfpkfapmlnaaGreatBth
/- Rows of numbers of the reference; the walks of cylinderref08.Trim and At. -/
namespace Go.Proofs.YtgblfpkfapmlnaaGreat
open Go.RowKit

/-- a polynomial of the reference: a slice of numbers -/
structure ZP (w : World) (A : Option Addr) (len cap : Nat) (f : List Int) : Prop where
  length : f.length = len
  elems : len = 0 ∨ ∃ b off, A = some ⟨b, off, none⟩ ∧ b < w.heap.size ∧ ∀ j, j < len → ∃ s Aj lj cj, w.cell? ⟨b, off + j * 2, none⟩ = some (.int .i64 s) ∧ w.cell? ⟨b, off + j * 2 + 1, none⟩ = some (.slice Aj lj cj) ∧ ZAt w s Aj lj cj (f.getD j 0)
  cap : len ≤ cap
theorem ZP.below {w w' : World} {A : Option Addr} {len cap : Nat} {f : List Int} (h : ZP w A len cap f) (hb : Below w.heap.size w w') : ZP w' A len cap f := by
  refine ⟨h.length, ?_, h.cap⟩
  rcases h.elems with h0 | ⟨b, off, hA, hlt, hc⟩
  · exact .inl h0
  · refine .inr ⟨b, off, hA, Nat.lt_of_lt_of_le hlt hb.size, fun j hj => ?_⟩
    obtain ⟨s, Aj, lj, cj, h1, h2, h3⟩ := hc j hj
    exact ⟨s, Aj, lj, cj, (hb.cell (p := ⟨b, off + j * 2, none⟩) hlt).trans h1, (hb.cell (p := ⟨b, off + j * 2 + 1, none⟩) hlt).trans h2, h3.below hb⟩
theorem ZP.at_ {w : World} {A : Option Addr} {len cap : Nat} {f : List Int} (h : ZP w A len cap f) (hl : 0 < len) : ∃ b off, A = some ⟨b, off, none⟩ ∧ b < w.heap.size ∧ ∀ j, j < len → ∃ s Aj lj cj, w.cell? ⟨b, off + j * 2, none⟩ = some (.int .i64 s) ∧ w.cell? ⟨b, off + j * 2 + 1, none⟩ = some (.slice Aj lj cj) ∧ ZAt w s Aj lj cj (f.getD j 0) := by
  rcases h.elems with h0 | h1
  · omega
  · exact h1
theorem ZP.nil (w : World) (A : Option Addr) (cap : Nat) : ZP w A 0 cap [] := ⟨rfl, .inl rfl, Nat.zero_le _⟩
theorem ZP.take {w : World} {A : Option Addr} {len cap : Nat} {f : List Int} (h : ZP w A len cap f) {k : Nat} (hk : k ≤ len) : ZP w A k cap (f.take k) := by
  refine ⟨by rw [List.length_take, h.length]; omega, ?_, by have := h.cap; omega⟩
  rcases Nat.eq_zero_or_pos k with h0 | h0
  · exact .inl h0
  · obtain ⟨b, off, hA, hlt, hc⟩ := h.at_ (by omega)
    refine .inr ⟨b, off, hA, hlt, fun j hj => ?_⟩
    rw [take_getD' f hj]
    exact hc j (by omega)

/-- the bits stay when a row of numbers grows -/
theorem ZAt.grown {w w' : World} {s : Int} {A : Option Addr} {l c : Nat} {z : Int} (h : ZAt w s A l c z) {row : Option Nat} (hg : w.grownBy w' row) (hr : ∀ g, row = some g → ∃ cs : Array Value, Blk w g 50 cs) : ZAt w' s A l c z := by
  rcases h.typ with h0 | ⟨b, off, cs, hA, hk⟩
  · subst h0
    exact ⟨h.sign, ⟨h.bits.length, h.bits.cap, .inl rfl⟩, .inl rfl⟩
  · have hne : some b ≠ row := by
      intro e
      obtain ⟨cs2, h2⟩ := hr b e.symm
      unfold Blk at hk h2
      rw [hk] at h2
      cases h2
    have hk2 : Blk w' b 3 cs := (hg.block b (Blk.lt hk) hne).trans hk
    refine ⟨h.sign, ⟨h.bits.length, h.bits.cap, ?_⟩, .inr ⟨b, off, cs, hA, hk2⟩⟩
    rcases Nat.eq_zero_or_pos l with hl | hl
    · exact .inl hl
    · obtain ⟨b2, off2, hA2, hlt, hc⟩ := h.bits.at_ hl
      rw [hA] at hA2
      cases hA2
      refine .inr ⟨b, off, hA, Blk.lt hk2, fun j hj => ?_⟩
      rw [Blk.cell hk2, ← Blk.cell hk]
      exact hc j hj

/-- an own row of numbers -/
structure ZCells (w : World) (xs : List Value) (f : List Int) : Prop where
  len : xs.length = f.length * 2
  get : ∀ j, j < f.length → ∃ s A l c, xs[j * 2]? = some (.int .i64 s) ∧ xs[j * 2 + 1]? = some (.slice A l c) ∧ ZAt w s A l c (f.getD j 0)
def OwnZ (w : World) (base : Nat) (v : Value) (f : List Int) : Prop := ∃ xs, w.ownsRow base 50 2 v f.length xs ∧ ZCells w xs f
theorem OwnZ.nil (w : World) (base : Nat) : OwnZ w base (.slice none 0 0) [] := ⟨[], World.ownsRow_nil _ _ _ _, rfl, fun _ hj => absurd hj (Nat.not_lt_zero _)⟩
theorem own_row {w : World} {base n : Nat} {e : TypeId} {sz : Nat} {v : Value} {xs : List Value} (h : w.ownsRow base e sz v n xs) : ∀ g, v.ownBlock = some g → ∃ cs : Array Value, Blk w g e cs := fun g hg => by
  obtain ⟨_, ⟨h1, _⟩ | ⟨g2, cap, cur, h1, _, hh, _⟩⟩ := h
  · rw [h1] at hg; cases hg
  · rw [h1] at hg
    cases hg
    exact ⟨cur, hh⟩
theorem OwnZ.zp {w : World} {base : Nat} {v : Value} {f : List Int} (h : OwnZ w base v f) : ∃ A cap, v = .slice A f.length cap ∧ ZP w A f.length cap f ∧ (0 < f.length → ∃ g, A = some ⟨g, 0, none⟩ ∧ base ≤ g) := by
  obtain ⟨xs, ho, hc⟩ := h
  rcases Nat.eq_zero_or_pos f.length with h0 | h0
  · have hf : f = [] := List.eq_nil_of_length_eq_zero h0
    subst hf
    obtain ⟨_, ⟨rfl, _⟩ | ⟨g, cap, cur, rfl, _⟩⟩ := ho
    · exact ⟨_, _, rfl, ZP.nil _ _ _, fun h => absurd h (Nat.not_lt_zero _)⟩
    · exact ⟨_, _, rfl, ZP.nil _ _ _, fun h => absurd h (Nat.not_lt_zero _)⟩
  · obtain ⟨g, cap, rfl, hg, hlt⟩ := World.ownsRow.form ho h0
    have hcap : f.length ≤ cap := by
      obtain ⟨_, ⟨h1, _⟩ | ⟨g2, cap2, cur, h1, _, _, hc, _⟩⟩ := ho
      · cases h1
      · cases h1; exact hc
    refine ⟨_, _, rfl, ⟨rfl, .inr ⟨g, 0, rfl, hlt, fun j hj => ?_⟩, hcap⟩, fun _ => ⟨g, rfl, hg⟩⟩
    obtain ⟨s, A, l, c, h1, h2, h3⟩ := hc.get j hj
    refine ⟨s, A, l, c, ?_, ?_, h3⟩
    · rw [Nat.zero_add, World.ownsRow.cellAt ho _ (by omega)]; exact h1
    · rw [Nat.zero_add, World.ownsRow.cellAt ho _ (by omega)]; exact h2
/-- one or more numbers are added -/
theorem OwnZ.grow {w1 w2 : World} {base : Nat} {v v' : Value} {f g : List Int} {xs ys : List Value} (h : w1.ownsRow base 50 2 v f.length xs) (hx : ZCells w1 xs f) (hy : ZCells w1 ys g) (hg : w1.grownBy w2 v.ownBlock)
    (h' : w2.ownsRow base 50 2 v' (f.length + g.length) (xs ++ ys)) : OwnZ w2 base v' (f ++ g) := by
  refine ⟨xs ++ ys, by rw [List.length_append]; exact h', by rw [List.length_append, List.length_append, hx.len, hy.len, Nat.add_mul], fun j hj => ?_⟩
  have hr := own_row h
  by_cases hlt : j < f.length
  · obtain ⟨s, A, l, c, h1, h2, h3⟩ := hx.get j hlt
    refine ⟨s, A, l, c, ?_, ?_, ?_⟩
    · rw [List.getElem?_append_left (by rw [hx.len]; omega)]; exact h1
    · rw [List.getElem?_append_left (by rw [hx.len]; omega)]; exact h2
    · rw [List.getD_eq_getElem?_getD, List.getElem?_append_left hlt, ← List.getD_eq_getElem?_getD]
      exact h3.grown hg hr
  · rw [List.length_append] at hj
    obtain ⟨s, A, l, c, h1, h2, h3⟩ := hy.get (j - f.length) (by omega)
    refine ⟨s, A, l, c, ?_, ?_, ?_⟩
    · rw [List.getElem?_append_right (by rw [hx.len]; omega), hx.len, show j * 2 - f.length * 2 = (j - f.length) * 2 by omega]; exact h1
    · rw [List.getElem?_append_right (by rw [hx.len]; omega), hx.len, show j * 2 + 1 - f.length * 2 = (j - f.length) * 2 + 1 by omega]; exact h2
    · rw [List.getD_eq_getElem?_getD, List.getElem?_append_right (by omega), ← List.getD_eq_getElem?_getD]
      exact h3.grown hg hr
theorem ZCells.below {w w' : World} {xs : List Value} {f : List Int} (h : ZCells w xs f) (hb : Below w.heap.size w w') : ZCells w' xs f := ⟨h.len, fun j hj => by
  obtain ⟨s, A, l, c, h1, h2, h3⟩ := h.get j hj
  exact ⟨s, A, l, c, h1, h2, h3.below hb⟩⟩
theorem ZCells.one {w : World} {s : Int} {A : Option Addr} {l c : Nat} {z : Int} (h : ZAt w s A l c z) : ZCells w [.int .i64 s, .slice A l c] [z] := ⟨rfl, fun j hj => by
  have : j = 0 := by simp at hj; exact hj
  subst this
  exact ⟨s, A, l, c, rfl, rfl, h⟩⟩
theorem OwnZ.below {w w' : World} {base : Nat} {v : Value} {f : List Int} (h : OwnZ w base v f) (hb : Below w.heap.size w w') : OwnZ w' base v f := by
  obtain ⟨xs, ho, hc⟩ := h
  refine ⟨xs, ⟨ho.1, ?_⟩, hc.below hb⟩
  rcases ho.2 with h1 | ⟨g, cap, cur, hv, hg, hh, rest⟩
  · exact .inl h1
  · exact .inr ⟨g, cap, cur, hv, hg, Blk.below (t := 50) hh hb (Blk.lt (t := 50) hh), rest⟩

theorem info_z : (Tryz.prog.info? 50).map (fun i => (i.zero, i.size, i.bytes)) = some (some (.agg #[.int .i64 0, .slice none 0 0]), 2, 32) := by kernel_rfl

/-- append(out, z) -/
theorem wpList_append_z {w : World} {ops : Array Oper} {rest : List Oper} {o : Oper} {a : Act} {Q : Exit → Act → World → Prop} (hgd : o.guard = none) (s x : Operand)
    (ho : o.op = .call { callee := .builtin .append, args := #[s, x], argTypes := #[27, 27] }) (base : Nat) (v : Value) (f : List Int) (hs : a.eval s = v) (hown : OwnZ w base v f)
    (sz : Int) (A : Option Addr) (l c : Nat) (z : Int) (hx : a.eval x = .slice (some ⟨w.heap.size, 0, none⟩) 1 1) (hz : ZAt w sz A l c z) (hn : f.length ≤ 1000000) (hbase : base ≤ w.heap.size)
    (h : ∀ v' w', OwnZ w' base v' (f ++ [z]) → (∀ W, Below base W w → Below base W w') → wpList Tryz.prog ops Q rest (a.put o.dst v') w') :
    wpList Tryz.prog ops Q (o :: rest) a (w.alloc (zbox sz A l c)) := by
  obtain ⟨i, hi, hz0, hz1, hz2⟩ := info_parts info_z
  obtain ⟨xs, hown, hc⟩ := hown
  have hal : Below w.heap.size w (w.alloc (zbox sz A l c)) := (Below.refl _ _).alloc (Nat.le_refl _) _
  have ho1 := World.ownsRow.alloc hown (zbox sz A l c)
  refine wpList_append_own _ hgd s x 27 ho base 50 i _ 2 32 Tryz.underlying27 hi hz0 hz1 hz2 rfl (by decide) v f.length xs hs ho1 ⟨w.heap.size, 0, none⟩ 1 1 [.int .i64 sz, .slice A l c] hx rfl ?_ ?_ (by unfold maxLen; omega) (by omega) (by simp; omega) (fun v' w' h1 h2 _ => ?_)
  · intro j y hj
    match j, hj with
    | 0, hj => simp at hj; subst hj; simp [Addr.add]
    | 1, hj => simp at hj; subst hj; simp [Addr.add]
  · intro y hy
    simp at hy
    rcases hy with rfl | rfl <;> rfl
  · refine h v' w' (OwnZ.grow ho1 (hc.below hal) (ZCells.one (hz.below hal)) h2 h1) (fun W hW => ?_)
    exact (hW.alloc hbase (zbox sz A l c)).grown h2 (by simp; omega) (fun j hj => (World.ownsRow.lt hown j hj).1)

set_option maxRecDepth 100000 in
set_option maxHeartbeats 1000000 in
theorem ztrim_any (A : Option Addr) (len cap : Nat) (f : List Int) (w : World) (h : ZP w A len cap f) (hm : len ≤ 1099511627776) :
    Calls Tryz.prog 31 #[.slice A len cap] w fun e w' => e = .returned (.slice A (plen f) cap) ∧ w = w' := by
  have htl : plen f ≤ len := by have := plen_le f; have := h.length; omega
  have hcap := h.cap
  go_enter Tryz.func31, Tryz.ntmps31
  go_wp2
  go_loop [3] (fun n => ∃ k : Nat, k ≤ len ∧ plen f ≤ k ∧ n = .int .i64 k) (fun n => (intOf n).toNat)
  case atStart => exact ⟨len, by omega, by omega, rfl⟩
  case round =>
    obtain ⟨k, hk, ht, rfl⟩ := hrel
    cases k with
    | zero =>
      have H0 := Lib.hid (show plen f = 0 by omega)
      clear h ht htl
      go_wp2
      go_ret
      exact ⟨by rw [H0.out]; rfl, rfl⟩
    | succ k =>
      obtain ⟨b, off, rfl, hb, hc⟩ := h.at_ (by omega)
      obtain ⟨s, Aj, lj, cj, e0, _, hz⟩ := hc k (by omega)
      have hpr := Lib.hid (plen_pred f k ht)
      have heq := Lib.hid (plen_eq f k ht)
      obtain ⟨x, hx⟩ : ∃ x, x = f.getD k 0 := ⟨_, rfl⟩
      have hs := hz.sign
      rw [← hx] at hs
      have Hx := Lib.hid hx
      clear hc h hx ht htl hz
      have i1 : IntKind.i64.wrap ((k + 1 : Nat) - 1 : Int) = (k : Int) := by rw [IntWalk.i64_in _ (by omega)]; omega
      by_cases h0 : x = 0
      · subst h0
        have hs0 : s = 0 := hs
        subst hs0
        clear hs
        go_wp2
        go_round
        case rel => exact ⟨k, by omega, hpr.out Hx.out.symm, by go_num⟩
        case measure => simp [intOf]
      · have hsne : s ≠ 0 := by
          rw [hs]
          rcases sg_cases x with ⟨_, e⟩ | ⟨e, _⟩ | ⟨_, e⟩
          · rw [e]; decide
          · exact absurd e h0
          · rw [e]; decide
        have hb0 : (s == 0) = false := by rw [beq_eq_false_iff_ne]; exact hsne
        have H1 := Lib.hid (heq.out (by rw [← Hx.out]; exact h0))
        clear h0 hs hsne
        go_wp2
        go_ret
        exact ⟨by rw [H1.out]; rfl, rfl⟩

set_option maxRecDepth 100000 in
set_option maxHeartbeats 1000000 in
theorem zat_any (A : Option Addr) (len cap : Nat) (f : List Int) (i : Nat) (w : World) (h : ZP w A len cap f) (hm : len ≤ 1000000) (hi : i ≤ 1000000) :
    Calls Tryz.prog 51 #[.slice A len cap, .int .i64 (i : Int)] w (ZRet w (f.getD i 0)) := by
  have hl := h.length
  by_cases hlt : i < len
  · obtain ⟨b, off, rfl, hb, hc⟩ := h.at_ (by omega)
    obtain ⟨s, Aj, lj, cj, e0, e1, hz⟩ := hc i hlt
    have t1 : (i : Int) < (len : Int) := by omega
    have t2 : ¬ (len : Int) ≤ (i : Int) := by omega
    have t3 : ¬ (i : Int) < 0 := by omega
    have nb : w.heap.size ≠ b := by omega
    obtain ⟨z, hzz⟩ : ∃ z, z = f.getD i 0 := ⟨_, rfl⟩
    rw [← hzz] at hz ⊢
    have Hz := Lib.hid hz
    clear hc h hz hzz
    go_enter Tryz.func51, Tryz.ntmps51
    go_wp2
    refine bodyPost_ret (v := .agg #[.int .i64 s, .slice Aj lj cj]) (by simp [results, Tryz.results51, go_sem]) rfl ⟨_, _, _, _, rfl, Hz.out.below (by (repeat (first | exact Below.refl _ _ | refine Below.drew ?_ | refine Below.alloc ?_ (by first | (simp; done) | (simp; omega) | omega) _ | refine Below.setCell ?_ (by first | (simp; done) | (simp; omega) | omega) _))), (by (repeat (first | exact Below.refl _ _ | refine Below.drew ?_ | refine Below.alloc ?_ (by first | (simp; done) | (simp; omega) | omega) _ | refine Below.setCell ?_ (by first | (simp; done) | (simp; omega) | omega) _)))⟩
  · have t1 : (len : Int) ≤ (i : Int) := by omega
    have t3 : ¬ (i : Int) < 0 := by omega
    have hx : f.getD i 0 = 0 := by rw [List.getD_eq_getElem?_getD, List.getElem?_eq_none (by omega)]; rfl
    rw [hx]
    clear h hx
    go_enter Tryz.func51, Tryz.ntmps51
    go_wp2
    refine bodyPost_ret (v := .agg #[.int .i64 0, .slice none 0 0]) (by simp [results, Tryz.results51, go_sem]) rfl ⟨_, _, _, _, rfl, ZAt.zero _ _ _, (by (repeat (first | exact Below.refl _ _ | refine Below.drew ?_ | refine Below.alloc ?_ (by first | (simp; done) | (simp; omega) | omega) _ | refine Below.setCell ?_ (by first | (simp; done) | (simp; omega) | omega) _)))⟩
end Go.Proofs.YtgblfpkfapmlnaaGreat

/- The walks of cylinderref08.Add, Scale, Up. -/
namespace Go.Proofs.YtgblfpkfapmlnaaGreat
open Go.RowKit

/-- what the functions on polynomials of the reference return -/
def PRet (w : World) (f : List Int) (nn : Prop) (e : Ending) (w' : World) : Prop := ∃ A l c, e = .returned (.slice A l c) ∧ ZP w' A l c f ∧ (nn → ∃ b off, A = some ⟨b, off, none⟩) ∧ Below w.heap.size w w'
/-- every coefficient has at most B bits -/
def ZB (B : Nat) (f : List Int) : Prop := ∀ j, bln (f.getD j 0).natAbs ≤ B

theorem take_tab (M : Nat) (F : Nat → Int) {k : Nat} (hk : k < M) : (tab M F).take k ++ [F k] = (tab M F).take (k + 1) := by
  rw [List.take_add_one]
  simp [tab, hk]
theorem take_tab_all (M : Nat) (F : Nat → Int) : (tab M F).take M = tab M F := List.take_of_length_le (by rw [tab_length]; exact Nat.le_refl _)
theorem take_tab_len (M : Nat) (F : Nat → Int) {k : Nat} (hk : k ≤ M) : ((tab M F).take k).length = k := by rw [List.length_take, tab_length]; omega
/-- the sum as the reference makes it -/
def zps (f g : List Int) : List Int := ptrim (tab (max f.length g.length) (fun j => f.getD j 0 + g.getD j 0))
theorem zps_get (f g : List Int) (k : Nat) : (zps f g).getD k 0 = f.getD k 0 + g.getD k 0 := by
  unfold zps
  rw [ptrim_getD]
  by_cases h : k < max f.length g.length
  · rw [tab_get _ h]
  · rw [getD_out _ (by rw [tab_length]; omega), getD_out f (by omega), getD_out g (by omega)]; rfl
theorem zps_len (f g : List Int) : (zps f g).length ≤ max f.length g.length := by
  unfold zps
  rw [ptrim_length]
  have := plen_le (tab (max f.length g.length) (fun j => f.getD j 0 + g.getD j 0))
  rw [tab_length] at this
  exact this
/-- the multiple as the reference makes it -/
def zsc (f : List Int) (c : Int) : List Int := ptrim (tab f.length (fun j => f.getD j 0 * c))
theorem zsc_get (f : List Int) (c : Int) (k : Nat) : (zsc f c).getD k 0 = f.getD k 0 * c := by
  unfold zsc
  rw [ptrim_getD]
  by_cases h : k < f.length
  · rw [tab_get _ h]
  · rw [getD_out _ (by rw [tab_length]; omega), getD_out f (by omega), Int.zero_mul]
theorem zsc_len (f : List Int) (c : Int) : (zsc f c).length ≤ f.length := by
  unfold zsc
  rw [ptrim_length]
  have := plen_le (tab f.length (fun j => f.getD j 0 * c))
  rw [tab_length] at this
  exact this
theorem zps_trim (f g : List Int) : ptrim (zps f g) = zps f g := by unfold zps; rw [ptrim_ptrim]
theorem zsc_trim (f : List Int) (c : Int) : ptrim (zsc f c) = zsc f c := by unfold zsc; rw [ptrim_ptrim]
/-- the product with a power of x -/
def zup (f : List Int) (n : Nat) : List Int := if f = [] then [] else List.replicate n 0 ++ f
theorem zup_get (f : List Int) (n k : Nat) : (zup f n).getD k 0 = if k < n then 0 else f.getD (k - n) 0 := by
  unfold zup
  by_cases h : f = []
  · rw [if_pos h, h]; simp
  · rw [if_neg h, List.getD_eq_getElem?_getD]
    by_cases hk : k < n
    · rw [if_pos hk, List.getElem?_append_left (by simpa using hk)]; simp [hk]
    · rw [if_neg hk, List.getElem?_append_right (by simp; omega), List.length_replicate, ← List.getD_eq_getElem?_getD]
theorem zup_len (f : List Int) (n : Nat) : (zup f n).length ≤ n + f.length := by
  unfold zup
  split
  · simp
  · simp

set_option maxRecDepth 100000 in
set_option maxHeartbeats 4000000 in
theorem zpadd_any (A : Option Addr) (la ca : Nat) (f : List Int) (B : Option Addr) (lb cb : Nat) (g : List Int) (w : World) (hf : ZP w A la ca f) (hg : ZP w B lb cb g) (hla : la ≤ 1000) (hlb : lb ≤ 1000) (bf : ZB 900000 f) (bg : ZB 900000 g) :
    Calls Tryz.prog 50 #[.slice A la ca, .slice B lb cb] w (PRet w (zps f g) (0 < la ∨ 0 < lb)) := by
  have HF := Lib.hid hf
  have HG := Lib.hid hg
  have Bf := Lib.hid bf
  have Bg := Lib.hid bg
  obtain ⟨M, hM⟩ : ∃ M, M = max la lb := ⟨_, rfl⟩
  obtain ⟨F, hF⟩ : ∃ F : Nat → Int, F = fun j => f.getD j 0 + g.getD j 0 := ⟨_, rfl⟩
  have HFv := Lib.hid (fun j => (show F j = f.getD j 0 + g.getD j 0 by rw [hF]))
  have Hres := Lib.hid (show ptrim (tab M F) = zps f g by unfold zps; rw [hM, hF, hf.length, hg.length])
  have laM : la ≤ M := by omega
  have lbM : lb ≤ M := by omega
  have hM3 : M = la ∨ M = lb := by omega
  clear hM hF hf hg bf bg
  go_enter Tryz.func50, Tryz.ntmps50
  go_wp2
  go_loopw [5, 6] (fun s5 s6 wr => ∃ k : Nat, k ≤ M ∧ s6 = .int .i64 (k : Int) ∧ OwnZ wr w.heap.size s5 ((tab M F).take k) ∧ Below w.heap.size w wr) (fun _ s6 _ => M - (intOf s6).toNat)
  case atStart => exact ⟨0, Nat.zero_le _, rfl, OwnZ.nil _ _, Below.refl _ _⟩
  case round =>
    obtain ⟨k, hk, rfl, hown, hbw⟩ := hrel
    have Hown := Lib.hid hown
    have Hbw := Lib.hid hbw
    clear hown hbw
    by_cases hlt : k < M
    · have arm : (k < la ∨ ¬ k < la ∧ k < lb) := by omega
      rcases arm with t0 | ⟨t0, t00⟩
      · have t1 : (k : Int) < (la : Int) := by omega
        clear t0
        go_wp2_with fail
        refine (zat_any _ _ _ f k _ (HF.out.below Hbw.out) (by omega) (by omega)).mono ?_
        rintro e w1 ⟨s1, A1, l1, c1, rfl, h1, hb1⟩
        have H1 := Lib.hid h1
        have Hb1 := Lib.hid hb1
        have HG1 := Lib.hid (HG.out.below (Hbw.out.trans (hb1.mono Hbw.out.size)))
        clear h1 hb1
        go_wp2_with fail
        refine (zat_any _ _ _ g k _ HG1.out (by omega) (by omega)).mono ?_
        rintro e w2 ⟨s2, A2, l2, c2, rfl, h2, hb2⟩
        have H2 := Lib.hid h2
        have H1b := Lib.hid (H1.out.below hb2)
        have Hb2 := Lib.hid (Hb1.out.trans (hb2.mono Hb1.out.size))
        clear h2 hb2 H1 Hb1
        go_wp2_with fail
        refine (zadd_any _ _ _ _ _ _ _ _ _ _ _ H1b.out H2.out (by rw [H1b.out.len]; exact Bf.out k) (by rw [H2.out.len]; exact Bg.out k)).mono ?_
        rintro e w3 ⟨s3, A3, l3, c3, rfl, h3, hb3⟩
        rw [← HFv.out k] at h3
        have H3 := Lib.hid h3
        have hb4 := Hb2.out.trans (hb3.mono Hb2.out.size)
        have Ho3 := Lib.hid (Hown.out.below hb4)
        have Hb4 := Lib.hid (Hbw.out.trans (hb4.mono Hbw.out.size))
        clear h3 hb3 hb4 H1b H2 Hb2
        go_wp2_with (at_builtin; refine wpList_append_z rfl (.tmp 19) (.tmp 27) rfl w.heap.size _ ((tab M F).take k) rfl Ho3.out s3 A3 l3 c3 (F k) rfl H3.out (by rw [take_tab_len M F hk]; omega) Hb4.out.size ?_)
        intro v' w4 ho4 hb5
        rw [take_tab M F hlt] at ho4
        have Ho4 := Lib.hid ho4
        have Hb5 := Lib.hid (hb5 w Hb4.out)
        clear ho4 hb5
        go_wp2
        go_roundw
        case rel => exact ⟨k + 1, by omega, by go_num, Ho4.out, Hb5.out⟩
        case measure => simp [intOf]; omega
      · have t1 : ¬ (k : Int) < (la : Int) := by omega
        have t2 : (k : Int) < (lb : Int) := by omega
        clear t0 t00
        go_wp2_with fail
        refine (zat_any _ _ _ f k _ (HF.out.below Hbw.out) (by omega) (by omega)).mono ?_
        rintro e w1 ⟨s1, A1, l1, c1, rfl, h1, hb1⟩
        have H1 := Lib.hid h1
        have Hb1 := Lib.hid hb1
        have HG1 := Lib.hid (HG.out.below (Hbw.out.trans (hb1.mono Hbw.out.size)))
        clear h1 hb1
        go_wp2_with fail
        refine (zat_any _ _ _ g k _ HG1.out (by omega) (by omega)).mono ?_
        rintro e w2 ⟨s2, A2, l2, c2, rfl, h2, hb2⟩
        have H2 := Lib.hid h2
        have H1b := Lib.hid (H1.out.below hb2)
        have Hb2 := Lib.hid (Hb1.out.trans (hb2.mono Hb1.out.size))
        clear h2 hb2 H1 Hb1
        go_wp2_with fail
        refine (zadd_any _ _ _ _ _ _ _ _ _ _ _ H1b.out H2.out (by rw [H1b.out.len]; exact Bf.out k) (by rw [H2.out.len]; exact Bg.out k)).mono ?_
        rintro e w3 ⟨s3, A3, l3, c3, rfl, h3, hb3⟩
        rw [← HFv.out k] at h3
        have H3 := Lib.hid h3
        have hb4 := Hb2.out.trans (hb3.mono Hb2.out.size)
        have Ho3 := Lib.hid (Hown.out.below hb4)
        have Hb4 := Lib.hid (Hbw.out.trans (hb4.mono Hbw.out.size))
        clear h3 hb3 hb4 H1b H2 Hb2
        go_wp2_with (at_builtin; refine wpList_append_z rfl (.tmp 19) (.tmp 27) rfl w.heap.size _ ((tab M F).take k) rfl Ho3.out s3 A3 l3 c3 (F k) rfl H3.out (by rw [take_tab_len M F hk]; omega) Hb4.out.size ?_)
        intro v' w4 ho4 hb5
        rw [take_tab M F hlt] at ho4
        have Ho4 := Lib.hid ho4
        have Hb5 := Lib.hid (hb5 w Hb4.out)
        clear ho4 hb5
        go_wp2
        go_roundw
        case rel => exact ⟨k + 1, by omega, by go_num, Ho4.out, Hb5.out⟩
        case measure => simp [intOf]; omega
    · have hkM : k = M := by omega
      have t1 : ¬ (k : Int) < (la : Int) := by omega
      have t2 : ¬ (k : Int) < (lb : Int) := by omega
      obtain ⟨A', cap', hv, hzp, hsm⟩ := Hown.out.zp
      rw [hkM, take_tab_all, tab_length] at hv hzp hsm
      subst hv
      have Hzp := Lib.hid hzp
      have hpl : plen (tab M F) ≤ M := by have := plen_le (tab M F); rw [tab_length] at this; exact this
      have Hsm := Lib.hid (show (0 < la ∨ 0 < lb) → ∃ b off, A' = some ⟨b, off, none⟩ from fun h => by
        obtain ⟨g, hg, _⟩ := hsm (by omega)
        exact ⟨g, 0, hg⟩)
      clear hzp hsm hkM
      go_wp2_with fail
      refine (ztrim_any _ _ _ _ _ Hzp.out (by omega)).mono ?_
      rintro e w2 ⟨rfl, rfl⟩
      have Hfin := Lib.hid (Hzp.out.take hpl)
      go_wp2
      go_ret
      exact ⟨_, _, _, rfl, by rw [← Hres.out]; exact Hfin.out, Hsm.out, Hbw.out⟩
end Go.Proofs.YtgblfpkfapmlnaaGreat

/- The walks of cylinderref08.Scale, Up, cylinderref09.Lead, Neg. -/
namespace Go.Proofs.YtgblfpkfapmlnaaGreat
open Go.RowKit

/-- append(out, z) as an operation -/
theorem oper_append_z {w : World} {o : Oper} {a : Act} {K : Act → World → Prop} {Q : Exit → Act → World → Prop} (s x : Operand)
    (ho : o.op = .call { callee := .builtin .append, args := #[s, x], argTypes := #[27, 27] }) (base : Nat) (v : Value) (f : List Int) (hs : a.eval s = v) (hown : OwnZ w base v f)
    (sz : Int) (A : Option Addr) (l c : Nat) (z : Int) (hx : a.eval x = .slice (some ⟨w.heap.size, 0, none⟩) 1 1) (hz : ZAt w sz A l c z) (hn : f.length ≤ 1000000) (hbase : base ≤ w.heap.size)
    (h : ∀ v' w', OwnZ w' base v' (f ++ [z]) → (∀ W, Below base W w → Below base W w') → K (a.put o.dst v') w') :
    Oper.wp Tryz.prog o a (w.alloc (zbox sz A l c)) K Q := by
  obtain ⟨i, hi, hz0, hz1, hz2⟩ := info_parts info_z
  obtain ⟨xs, hown, hc⟩ := hown
  have hal : Below w.heap.size w (w.alloc (zbox sz A l c)) := (Below.refl _ _).alloc (Nat.le_refl _) _
  have ho1 := World.ownsRow.alloc hown (zbox sz A l c)
  refine wp_append_own _ s x 27 ho base 50 i _ 2 32 Tryz.underlying27 hi hz0 hz1 hz2 rfl (by decide) v f.length xs hs ho1 ⟨w.heap.size, 0, none⟩ 1 1 [.int .i64 sz, .slice A l c] hx rfl ?_ ?_ (by unfold maxLen; omega) (by omega) (by simp; omega) (fun v' w' h1 h2 _ => ?_)
  · intro j y hj
    match j, hj with
    | 0, hj => simp at hj; subst hj; simp [Addr.add]
    | 1, hj => simp at hj; subst hj; simp [Addr.add]
  · intro y hy
    simp at hy
    rcases hy with rfl | rfl <;> rfl
  · refine h v' w' (OwnZ.grow ho1 (hc.below hal) (ZCells.one (hz.below hal)) h2 h1) (fun W hW => ?_)
    exact (hW.alloc hbase (zbox sz A l c)).grown h2 (by simp; omega) (fun j hj => (World.ownsRow.lt hown j hj).1)

/-- the cells of a polynomial -/
theorem ZP.row {w : World} {b off len cap : Nat} {f : List Int} (h : ZP w (some ⟨b, off, none⟩) len cap f) : ∃ ys, ZCells w ys f ∧ (∀ j u, ys[j]? = some u → w.cell? ⟨b, off + j, none⟩ = some u) ∧ (∀ u ∈ ys, u.oneCell' = true) := by
  have key : ∀ j, j < len * 2 → ∃ u, w.cell? ⟨b, off + j, none⟩ = some u ∧ u.oneCell' = true := fun j hj => by
    obtain ⟨b2, off2, hA, _, hc⟩ := h.at_ (by omega)
    cases hA
    obtain ⟨s, Aj, lj, cj, h1, h2, _⟩ := hc (j / 2) (by omega)
    rcases Nat.mod_two_eq_zero_or_one j with h0 | h0
    · exact ⟨_, by rw [show off + j = off + j / 2 * 2 by omega]; exact h1, rfl⟩
    · exact ⟨_, by rw [show off + j = off + j / 2 * 2 + 1 by omega]; exact h2, rfl⟩
  refine ⟨(List.range (len * 2)).map fun j => (w.cell? ⟨b, off + j, none⟩).getD undef, ⟨by simp [h.length], fun j hj => ?_⟩, fun j u hj => ?_, fun u hu => ?_⟩
  · rw [h.length] at hj
    obtain ⟨b2, off2, hA, _, hc⟩ := h.at_ (by omega)
    cases hA
    obtain ⟨s, Aj, lj, cj, h1, h2, h3⟩ := hc j hj
    refine ⟨s, Aj, lj, cj, ?_, ?_, h3⟩
    · rw [List.getElem?_map, List.getElem?_range (by omega)]
      simp [h1]
    · rw [List.getElem?_map, List.getElem?_range (by omega)]
      simp only [Option.map_some]
      rw [show off + (j * 2 + 1) = off + j * 2 + 1 by omega, h2]; rfl
  · rcases Nat.lt_or_ge j (len * 2) with h1 | h1
    · obtain ⟨v, hv, _⟩ := key j h1
      rw [List.getElem?_map, List.getElem?_range h1] at hj
      simp only [Option.map_some, hv, Option.getD_some, Option.some.injEq] at hj
      rw [← hj]; exact hv
    · rw [List.getElem?_eq_none (by simpa using h1)] at hj; cases hj
  · obtain ⟨j, hj, rfl⟩ := List.mem_map.1 hu
    obtain ⟨v, hv, h1⟩ := key j (by simpa using hj)
    rw [hv]; exact h1
/-- append(out, f...) -/
theorem wpList_append_zs {w : World} {ops : Array Oper} {rest : List Oper} {o : Oper} {a : Act} {Q : Exit → Act → World → Prop} (hgd : o.guard = none) (s x : Operand)
    (ho : o.op = .call { callee := .builtin .append, args := #[s, x], argTypes := #[27, 27] }) (base : Nat) (v : Value) (f : List Int) (hs : a.eval s = v) (hown : OwnZ w base v f)
    (b off m c : Nat) (g : List Int) (hx : a.eval x = .slice (some ⟨b, off, none⟩) m c) (hg : ZP w (some ⟨b, off, none⟩) m c g) (hn : f.length ≤ 1000000) (hm : m ≤ 1000000) (hbase : base ≤ w.heap.size)
    (h : ∀ v' w', OwnZ w' base v' (f ++ g) → (∀ W, Below base W w → Below base W w') → wpList Tryz.prog ops Q rest (a.put o.dst v') w') :
    wpList Tryz.prog ops Q (o :: rest) a w := by
  obtain ⟨i, hi, hz0, hz1, hz2⟩ := info_parts info_z
  obtain ⟨xs, hown, hc⟩ := hown
  obtain ⟨ys, hy, hy2, hy3⟩ := hg.row
  have hgl := hg.length
  refine wpList_append_own _ hgd s x 27 ho base 50 i _ 2 32 Tryz.underlying27 hi hz0 hz1 hz2 rfl (by decide) v f.length xs hs hown ⟨b, off, none⟩ m c ys hx (by rw [hy.len, hgl]) ?_ hy3 (by unfold maxLen; omega) (by omega) hbase (fun v' w' h1 h2 _ => ?_)
  · intro j u hj
    rw [← hy2 j u hj]
    by_cases h0 : j = 0 <;> simp [Addr.add, h0]
  · rw [← hgl] at h1
    exact h v' w' (OwnZ.grow hown hc hy h2 h1) (fun W hW => hW.grown h2 hbase (fun j hj => (World.ownsRow.lt hown j hj).1))

theorem rep_push (k : Nat) : List.replicate k (0 : Int) ++ [0] = List.replicate (k + 1) 0 := by
  rw [List.replicate_succ']
set_option maxRecDepth 100000 in
set_option maxHeartbeats 4000000 in
theorem zup_any (b off la ca : Nat) (f : List Int) (n : Nat) (w : World) (hf : ZP w (some ⟨b, off, none⟩) la ca f) (hla : la ≤ 1000) (hn : n ≤ 1000) :
    Calls Tryz.prog 49 #[.slice (some ⟨b, off, none⟩) la ca, .int .i64 (n : Int)] w (PRet w (zup f n) (0 < la)) := by
  have HF := Lib.hid hf
  have hl := hf.length
  by_cases h0 : la = 0
  · subst h0
    have hf0 : f = [] := List.eq_nil_of_length_eq_zero hl
    subst hf0
    have Hz := Lib.hid (show zup [] n = [] from if_pos rfl)
    clear hf hl
    go_enter Tryz.func49, Tryz.ntmps49
    by_cases hn0 : 0 < n
    · have t1 : (0 : Int) < (n : Int) := by omega
      go_wp2
      go_loop [5, 6] (fun s5 s6 => s5 = .slice none 0 0 ∧ s6 = .int .i64 0) (fun _ _ => 0)
      case atStart => exact ⟨rfl, rfl⟩
      case round =>
        obtain ⟨rfl, rfl⟩ := hrel
        go_wp2_with (at_builtin; refine wpList_append_zs rfl (.tmp 21) (.tmp 22) rfl w.heap.size _ [] rfl (OwnZ.nil _ _) b off 0 ca [] rfl HF.out (by simp) (by omega) (Nat.le_refl _) ?_)
        intro v' w4 ho4 hb5
        obtain ⟨A', cap', hv, hzp, _⟩ := OwnZ.zp ho4
        simp only [List.length_nil] at hv hzp
        subst hv
        have Hzp := Lib.hid hzp
        have Hb5 := Lib.hid (hb5 w (Below.refl _ _))
        clear ho4 hb5 hzp
        go_wp2
        go_ret
        exact ⟨_, _, _, rfl, by rw [Hz.out]; exact Hzp.out, fun h => absurd h (Nat.lt_irrefl _), Hb5.out⟩
    · have t1 : ¬ (0 : Int) < (n : Int) := by omega
      go_wp2
      go_loop [5, 6] (fun s5 s6 => s5 = .slice none 0 0 ∧ s6 = .int .i64 0) (fun _ _ => 0)
      case atStart => exact ⟨rfl, rfl⟩
      case round =>
        obtain ⟨rfl, rfl⟩ := hrel
        go_wp2_with (at_builtin; refine wpList_append_zs rfl (.tmp 21) (.tmp 22) rfl w.heap.size _ [] rfl (OwnZ.nil _ _) b off 0 ca [] rfl HF.out (by simp) (by omega) (Nat.le_refl _) ?_)
        intro v' w4 ho4 hb5
        obtain ⟨A', cap', hv, hzp, _⟩ := OwnZ.zp ho4
        simp only [List.length_nil] at hv hzp
        subst hv
        have Hzp := Lib.hid hzp
        have Hb5 := Lib.hid (hb5 w (Below.refl _ _))
        clear ho4 hb5 hzp
        go_wp2
        go_ret
        exact ⟨_, _, _, rfl, by rw [Hz.out]; exact Hzp.out, fun h => absurd h (Nat.lt_irrefl _), Hb5.out⟩
  · have t2 : (0 : Int) < (la : Int) := by omega
    have hne : f ≠ [] := fun e => h0 (by rw [← hl, e]; rfl)
    have Hz := Lib.hid (show List.replicate n 0 ++ f = zup f n by unfold zup; rw [if_neg hne])
    have Hl := Lib.hid hl
    have la0 : 0 < la := by omega
    clear hf hl hne h0
    go_enter Tryz.func49, Tryz.ntmps49
    go_wp2
    go_loopw [5, 6] (fun s5 s6 wr => ∃ k : Nat, k ≤ n ∧ s6 = .int .i64 (k : Int) ∧ OwnZ wr w.heap.size s5 (List.replicate k 0) ∧ Below w.heap.size w wr) (fun _ s6 _ => n - (intOf s6).toNat)
    case atStart => exact ⟨0, Nat.zero_le _, rfl, OwnZ.nil _ _, Below.refl _ _⟩
    case round =>
      obtain ⟨k, hk, rfl, hown, hbw⟩ := hrel
      have Hown := Lib.hid hown
      have Hbw := Lib.hid hbw
      clear hown hbw
      by_cases hlt : k < n
      · have t1 : (k : Int) < (n : Int) := by omega
        go_wp2_with (at_builtin; refine wpList_append_z rfl (.tmp 17) (.tmp 19) rfl w.heap.size _ (List.replicate k 0) rfl Hown.out 0 none 0 0 0 rfl (ZAt.zero _ _ _) (by simp; omega) Hbw.out.size ?_)
        intro v' w4 ho4 hb5
        rw [rep_push] at ho4
        have Ho4 := Lib.hid ho4
        have Hb5 := Lib.hid (hb5 w Hbw.out)
        clear ho4 hb5
        go_wp2
        go_roundw
        case rel => exact ⟨k + 1, by omega, by go_num, Ho4.out, Hb5.out⟩
        case measure => simp [intOf]; omega
      · have t1 : ¬ (k : Int) < (n : Int) := by omega
        have hkn : k = n := by omega
        subst hkn
        go_wp2_with (at_builtin; refine wpList_append_zs rfl (.tmp 21) (.tmp 22) rfl w.heap.size _ (List.replicate k 0) rfl Hown.out b off la ca f rfl (HF.out.below Hbw.out) (by simp; omega) (by omega) Hbw.out.size ?_)
        intro v' w4 ho4 hb5
        rw [Hz.out] at ho4
        have hzl : 0 < (zup f k).length := by rw [← Hz.out]; simp; have := Hl.out; omega
        obtain ⟨A', cap', hv, hzp, hsm⟩ := OwnZ.zp ho4
        obtain ⟨L, hL⟩ : ∃ L, L = (zup f k).length := ⟨_, rfl⟩
        rw [← hL] at hv hzp hsm hzl
        subst hv
        have Hzp := Lib.hid hzp
        have Hsm := Lib.hid hsm
        have Hb5 := Lib.hid (hb5 w Hbw.out)
        clear ho4 hb5 hzp hsm hL
        go_wp2
        go_ret
        refine ⟨_, _, _, rfl, Hzp.out, fun _ => ?_, Hb5.out⟩
        obtain ⟨g, hg, _⟩ := Hsm.out hzl
        exact ⟨g, 0, hg⟩
end Go.Proofs.YtgblfpkfapmlnaaGreat

/- The walks of cylinderref08.Scale, cylinderref09.Lead, Neg. -/
namespace Go.Proofs.YtgblfpkfapmlnaaGreat
open Go.RowKit

set_option maxRecDepth 100000 in
set_option maxHeartbeats 4000000 in
theorem zscale_any (A : Option Addr) (la ca : Nat) (f : List Int) (s : Int) (B : Option Addr) (lb cb : Nat) (c : Int) (w : World) (hf : ZP w A la ca f) (hc : ZAt w s B lb cb c) (hla : la ≤ 1000) (bf : ZB 400000 f) (bc : lb ≤ 400000) :
    Calls Tryz.prog 52 #[.slice A la ca, .agg #[.int .i64 s, .slice B lb cb]] w (PRet w (zsc f c) (0 < la)) := by
  have hb0 : Below w.heap.size w (w.alloc (zbox s B lb cb)) := (Below.refl _ _).alloc (Nat.le_refl _) _
  have HF := Lib.hid (hf.below hb0)
  have HC := Lib.hid (hc.below hb0)
  have HF0 := Lib.hid hf
  have Bf := Lib.hid bf
  have Hb0 := Lib.hid hb0
  have hWs : (w.alloc (zbox s B lb cb)).heap.size = w.heap.size + 1 := World.size_alloc _ _
  have HWs := Lib.hid hWs
  obtain ⟨F, hF⟩ : ∃ F : Nat → Int, F = fun j => f.getD j 0 * c := ⟨_, rfl⟩
  have HFv := Lib.hid (fun j => (show F j = f.getD j 0 * c by rw [hF]))
  have Hres := Lib.hid (show ptrim (tab la F) = zsc f c by unfold zsc; rw [hF, hf.length])
  have k0 : (w.alloc (zbox s B lb cb)).cell? ⟨w.heap.size, 0, none⟩ = some (.int .i64 s) := by go_simp
  have k1 : (w.alloc (zbox s B lb cb)).cell? ⟨w.heap.size, 1, none⟩ = some (.slice B lb cb) := by go_simp
  have K0 := Lib.hid k0
  have K1 := Lib.hid k1
  clear hF hf bf hb0 hc k0 k1 hWs
  go_enter Tryz.func52, Tryz.ntmps52
  go_wp2
  go_loopw [5, 6] (fun s5 s6 wr => ∃ k : Nat, k ≤ la ∧ s6 = .int .i64 (k : Int) ∧ OwnZ wr (w.heap.size + 1) s5 ((tab la F).take k) ∧ Below (w.heap.size + 1) (w.alloc (zbox s B lb cb)) wr) (fun _ s6 _ => la - (intOf s6).toNat)
  case atStart => exact ⟨0, Nat.zero_le _, rfl, OwnZ.nil _ _, Below.refl _ _⟩
  case round =>
    obtain ⟨k, hk, rfl, hown, hbw⟩ := hrel
    have hbs : w.heap.size + 1 ≤ wr.heap.size := by have := hbw.size; rw [HWs.out] at this; exact this
    have Hown := Lib.hid hown
    have Hbw := Lib.hid hbw
    clear hown
    by_cases hlt : k < la
    · obtain ⟨c1, o1, rfl, hb1, hc1⟩ := HF0.out.at_ (by omega)
      obtain ⟨c1', o1', hA', hb1', hc1'⟩ := HF.out.at_ (by omega)
      cases hA'
      obtain ⟨s1, A1, l1, d1, e0, e1, hz1⟩ := hc1' k hlt
      have e0 := (hbw.cell (p := ⟨c1, o1 + k * 2, none⟩) (by simp; omega)).trans e0
      have e1 := (hbw.cell (p := ⟨c1, o1 + k * 2 + 1, none⟩) (by simp; omega)).trans e1
      have e2 := (hbw.cell (p := ⟨w.heap.size, 0, none⟩) (by simp)).trans K0.out
      have e3 := (hbw.cell (p := ⟨w.heap.size, 1, none⟩) (by simp)).trans K1.out
      have hz2 := HC.out
      rw [← HWs.out] at hbw
      have Z1 := Lib.hid (hz1.below hbw)
      have Z2 := Lib.hid (hz2.below hbw)
      have t1 : (k : Int) < (la : Int) := by omega
      have Hl1 := Lib.hid (show l1 ≤ 400000 by rw [hz1.len]; exact Bf.out k)
      clear hc1 hc1' hz1 hz2 hbw
      go_wp2_with fail
      refine wp_region_last (S := fun w' => w'.cell? ⟨c1, o1 + k * 2, none⟩ = some (.int .i64 s1) ∧ w'.cell? ⟨c1, o1 + k * 2 + 1, none⟩ = some (.slice A1 l1 d1) ∧ w'.cell? ⟨w.heap.size, 0, none⟩ = some (.int .i64 s) ∧ w'.cell? ⟨w.heap.size, 1, none⟩ = some (.slice B lb cb)) (by kernel_rfl) (by kernel_rfl) (by (try dsimp only); go_keep) (fun hHeld => ?_)
      simp only [List.pop_toArray, List.dropLast]
      (refine take_at (i := 0) (oi := _) (v := ?_) rfl rfl (by kernel_rfl) (by kernel_rfl) (by kernel_rfl) (fun _ _ _ h => h) (Or.inl ⟨by rfl, ?_⟩) (by assumption) ?_; rotate_left; (focus (intro w hSw; (try dsimp only at hSw); go_simp; (try with_reducible rfl))); (simp only [put_lit, List.set]))
      (refine take_at (i := 1) (oi := _) (v := ?_) rfl rfl (by kernel_rfl) (by kernel_rfl) (by kernel_rfl) (fun _ _ _ h => h) (Or.inl ⟨by rfl, ?_⟩) (by assumption) ?_; rotate_left; (focus (intro w hSw; (try dsimp only at hSw); go_simp; (try with_reducible rfl))); (simp only [put_lit, List.set]))
      (refine take_at (i := 2) (oi := _) (v := ?_) rfl rfl (by kernel_rfl) (by kernel_rfl) (by kernel_rfl) (fun _ _ _ h => h) (Or.inl ⟨by rfl, ?_⟩) (by assumption) ?_; rotate_left; (focus (intro w hSw; (try dsimp only at hSw); go_simp; (try with_reducible rfl))); (simp only [put_lit, List.set]))
      (refine take_at (i := 3) (oi := _) (v := ?_) rfl rfl (by kernel_rfl) (by kernel_rfl) (by kernel_rfl) (fun _ _ _ h => h) (Or.inl ⟨by rfl, ?_⟩) (by assumption) ?_; rotate_left; (focus (intro w hSw; (try dsimp only at hSw); go_simp; (try with_reducible rfl))); (simp only [put_lit, List.set]))
      (refine take_at (i := 4) (oi := _) (v := ?_) rfl rfl (by kernel_rfl) (by kernel_rfl) (by kernel_rfl) (fun _ _ _ h => h) (Or.inl ⟨by rfl, ?_⟩) (by assumption) ?_; rotate_left; (focus (intro w hSw; (try dsimp only at hSw); go_simp; (try with_reducible rfl))); (simp only [put_lit, List.set]))
      (refine take_at (i := 5) (oi := _) (v := ?_) rfl rfl (by kernel_rfl) (by kernel_rfl) (by kernel_rfl) (fun _ _ _ h => h) (Or.inl ⟨by rfl, ?_⟩) (by assumption) ?_; rotate_left; (focus (intro w hSw; (try dsimp only at hSw); go_simp; (try with_reducible rfl))); (simp only [put_lit, List.set]))
      refine wpAnyH_ready (rs := [6]) (by kernel_rfl) (by simp) ?_
      refine AllReadyH.cons rfl (fun K hK => ?_) AllReadyH.nil; go_simp
      refine (zmul_any _ _ _ _ _ _ _ _ _ _ _ (Z1.out.below (by (repeat (first | exact Below.refl _ _ | refine Below.drew ?_ | refine Below.alloc ?_ (by first | (simp; done) | (simp; omega) | omega) _ | refine Below.setCell ?_ (by first | (simp; done) | (simp; omega) | omega) _)))) (Z2.out.below (by (repeat (first | exact Below.refl _ _ | refine Below.drew ?_ | refine Below.alloc ?_ (by first | (simp; done) | (simp; omega) | omega) _ | refine Below.setCell ?_ (by first | (simp; done) | (simp; omega) | omega) _)))) Hl1.out bc).mono ?_
      rintro e w3 ⟨s3, A3, l3, c3, rfl, h3, hb3⟩
      rw [← HFv.out k] at h3
      obtain ⟨hcx, hfx⟩ := bcellS hb3
      have hb4 : Below wr.heap.size wr w3 := Below.trans (by (repeat (first | exact Below.refl _ _ | refine Below.drew ?_ | refine Below.alloc ?_ (by first | (simp; done) | (simp; omega) | omega) _ | refine Below.setCell ?_ (by first | (simp; done) | (simp; omega) | omega) _))) (hb3.mono (by simp <;> omega))
      have H3 := Lib.hid h3
      have Ho3 := Lib.hid (Hown.out.below hb4)
      have Hb4 := Lib.hid (Hbw.out.trans (hb4.mono hbs))
      have hs3 := hb4.size
      refine hK.out _ _ ?_ (fun _ => ?_)
      · ((try dsimp only); repeat' apply And.intro) <;> (rw [hcx _ (by go_simp)]; go_simp)
      clear hHeld hK K hcx hfx; rename_i hHeld
      clear h3 hb3 hb4
      refine wpAnyH_ready (rs := [7]) (by kernel_rfl) (by simp) ?_
      refine AllReadyH.cons rfl (fun K hK => ?_) AllReadyH.nil; go_simp
      refine hK.out _ _ ?_ (fun _ => ?_)
      · (try dsimp only); go_keep
      clear hHeld hK K
      rename_i hHeld
      (try (simp only [put_lit, List.set]))
      refine wpAnyH_ready (rs := [8]) (by kernel_rfl) (by simp) ?_
      refine AllReadyH.cons rfl (fun K hK => ?_) AllReadyH.nil
      rw [if_pos (by rfl)]
      refine oper_append_z (.tmp 13) (.tmp 20) rfl (w.heap.size + 1) _ ((tab la F).take k) rfl Ho3.out s3 A3 l3 c3 (F k) rfl H3.out (by rw [take_tab_len la F hk]; omega) (by omega) ?_
      intro v' w4 ho4 hb5
      rw [take_tab la F hlt] at ho4
      have Ho4 := Lib.hid ho4
      have hb6 := hb5 _ Hb4.out
      have Hb5 := Lib.hid hb6
      have cc : ∀ b o, b < w.heap.size + 1 → w4.cell? ⟨b, o, none⟩ = wr.cell? ⟨b, o, none⟩ := fun b o h => (hb6.cell (p := ⟨b, o, none⟩) h).trans (Hbw.out.cell (p := ⟨b, o, none⟩) h).symm
      refine hK.out _ _ ?_ (fun _ => ?_)
      · refine ⟨?_, ?_, ?_, ?_⟩ <;> (rw [cc _ _ (by omega)]; assumption)
      clear hHeld hK K ho4 hb5 hb6 cc
      rename_i hHeld
      (try (simp only [put_lit, List.set]))
      refine wpAnyH_done (by kernel_rfl) (lastQ_list rfl ?_) _
      clear hHeld
      go_wp2_with fail
      go_roundw
      case rel => exact ⟨k + 1, by omega, by go_num, Ho4.out, Hb5.out⟩
      case measure => simp [intOf]; omega
    · have hkM : k = la := by omega
      have t1 : ¬ (k : Int) < (la : Int) := by omega
      obtain ⟨A', cap', hv, hzp, hsm⟩ := Hown.out.zp
      rw [hkM, take_tab_all, tab_length] at hv hzp hsm
      subst hv
      have Hzp := Lib.hid hzp
      have hpl : plen (tab la F) ≤ la := by have := plen_le (tab la F); rw [tab_length] at this; exact this
      have Hsm := Lib.hid (show 0 < la → ∃ b off, A' = some ⟨b, off, none⟩ from fun h => by
        obtain ⟨g, hg, _⟩ := hsm h
        exact ⟨g, 0, hg⟩)
      clear hzp hsm hkM hbw
      go_wp2_with fail
      refine (ztrim_any _ _ _ _ _ Hzp.out (by omega)).mono ?_
      rintro e w2 ⟨rfl, rfl⟩
      have Hfin := Lib.hid (Hzp.out.take hpl)
      go_wp2
      go_ret
      exact ⟨_, _, _, rfl, by rw [← Hres.out]; exact Hfin.out, Hsm.out, Hb0.out.trans (Hbw.out.mono (Nat.le_succ _))⟩

set_option maxRecDepth 100000 in
set_option maxHeartbeats 1000000 in
theorem zlead_any (A : Option Addr) (la ca : Nat) (f : List Int) (w : World) (hf : ZP w A la ca f) (hla : la ≤ 1000) (h0 : 0 < la) :
    Calls Tryz.prog 24 #[.slice A la ca] w (ZRet w (f.getD (la - 1) 0)) := by
  have hb0 : Below w.heap.size w (w.alloc (zbox 0 none 0 0)) := (Below.refl _ _).alloc (Nat.le_refl _) _
  obtain ⟨n, rfl⟩ : ∃ n, la = n + 1 := ⟨la - 1, by omega⟩
  rw [Nat.add_sub_cancel]
  obtain ⟨m, hm⟩ : ∃ m, m = n + 1 := ⟨_, rfl⟩
  rw [← hm] at hf hla ⊢
  have HF := Lib.hid (hf.below hb0)
  have Hb0 := Lib.hid hb0
  have i1 : (m : Int) - 1 = (n : Int) := by omega
  have i2 : IntKind.i64.wrap ((m : Int) - 1) = (n : Int) := by rw [IntWalk.i64_in _ (by omega)]; omega
  have i3 : IntKind.i64.wrap (n : Int) = (n : Int) := IntWalk.i64_in _ (by omega)
  have hn : n ≤ 1000 := by omega
  clear hf hb0 hm h0
  go_enter Tryz.func24, Tryz.ntmps24
  go_wp2_with fail
  refine (zat_any _ _ _ f n _ HF.out (by omega) (by omega)).mono ?_
  rintro e w2 ⟨s2, A2, l2, c2, rfl, h2, hb2⟩
  obtain ⟨hc, hf⟩ := bcell hb2
  have hsz := hb2.size
  simp only [World.size_alloc] at hsz
  have H2 := Lib.hid h2
  have Hb2 := Lib.hid hb2
  have Hc := Lib.hid hc
  clear h2 hb2
  go_wp2
  refine bodyPost_ret (v := .agg #[.int .i64 s2, .slice A2 l2 c2]) (by simp [results, Tryz.results24, go_sem, hc]) rfl ⟨_, _, _, _, rfl, H2.out.ret _ _ (A0 := none) (l0 := 0) (c0 := 0) ?_ ?_, ?_⟩
  · rw [Hc.out _ _ (by simp)]; go_simp
  · rw [Hc.out _ _ (by simp)]; go_simp
  · exact ((Hb0.out.trans (Hb2.out.mono Hb0.out.size)).setCell (Nat.le_refl _) _).setCell (Nat.le_refl _) _

set_option maxRecDepth 100000 in
set_option maxHeartbeats 1000000 in
theorem zneg_any (A : Option Addr) (la ca : Nat) (f : List Int) (w : World) (hf : ZP w A la ca f) (hla : la ≤ 1000) (bf : ZB 400000 f) :
    Calls Tryz.prog 25 #[.slice A la ca] w (PRet w (zsc f (-1)) (0 < la)) := by
  have HF := Lib.hid hf
  have Bf := Lib.hid bf
  clear hf bf
  go_enter Tryz.func25, Tryz.ntmps25
  go_wp2_with fail
  refine (zsmall_any (-1) _ (by decide)).mono ?_
  rintro e w1 ⟨s1, A1, l1, c1, rfl, h1, hb1⟩
  have H1 := Lib.hid h1
  have HF1 := Lib.hid (HF.out.below hb1)
  have Hb1 := Lib.hid hb1
  clear h1 hb1
  go_wp2_with fail
  refine (zscale_any _ _ _ f _ _ _ _ (-1) _ HF1.out H1.out hla Bf.out (by rw [H1.out.len]; decide)).mono ?_
  rintro e w2 ⟨A2, l2, c2, rfl, h2, hs2, hb2⟩
  have H2 := Lib.hid h2
  have Hs2 := Lib.hid hs2
  have Hb2 := Lib.hid (Hb1.out.trans (hb2.mono Hb1.out.size))
  clear h2 hb2 hs2
  go_wp2
  go_ret
  exact ⟨_, _, _, rfl, H2.out, Hs2.out, Hb2.out⟩
end Go.Proofs.YtgblfpkfapmlnaaGreat
